/- Walks and laws of several statements of this seat, joined into one text; no condition. -/
import Derived.Test.YtgeldmhgbnamcaaProg
import Derived.Below
import Derived.Deep.Draws
import Derived.Deep.AppendLies
import Derived.Maps.AppendAt
import Derived.OwnWalk
import Derived.Laws.BytesArg
import Derived.Laws.MakeOwn
import Derived.Laws.OwnMore
import Derived.Deep.OwnRows
import Derived.Tactics
import Derived.Lib.ConvBytes
import Derived.Laws.Slices
import Derived.WalkKit
import Derived.KernelRfl
import Derived.RowKit3
import Derived.Deep.LoopGhost
import Derived.Deep.QuietTactic
import Derived.BigQuiet
import Derived.WideLaws
import Derived.Deep.DeepCutAuto
import Derived.Deep.CutBlock
import Derived.Deep.RegionHeld3
import Derived.Laws.Rows
import Derived.Lib.AppendStr
import Derived.ArgAppend
import Derived.Laws.IdiomCopy
import Derived.OrdersHeld
import Derived.Laws.BitsLemmas
import Derived.RowKit
import Derived.Laws.StructEq
import Derived.Laws.CopyOwn
import Derived.Deep.RegionLaw
import Derived.LoopTactic
import Derived.Outline
import Derived.IntWalk
import Derived.Lib.BufferMore
import Derived.Deep.Slices
import Derived.SizedLaws
import Derived.OpenShut
import Derived.Lib.SmallJoins
import Derived.Test.YtgeldmhgbnamcaaFWa0
import Derived.Test.YtgeldmhgbnamcaaFWa1
import Derived.Test.YtgeldmhgbnamcaaFWa2
import Derived.Test.YtgeldmhgbnamcaaFWa3
import Derived.Test.YtgeldmhgbnamcaaFWa4
import Derived.Test.YtgeldmhgbnamcaaFWa5
import Derived.Test.YtgeldmhgbnamcaaFWa6
import Derived.Test.YtgeldmhgbnamcaaFWa7
import Derived.Test.YtgeldmhgbnamcaaFWa8
section
-- Printed by the session's own turn of the print (wip/tools/print2.sh): some callees are proved by hand.
namespace Go.Proofs.Ytgeldmhgbnamcaa.P
open Go.RowKit Go.Proofs.YtgeldmhgbnamcaaW.PrintWords Go.Proofs.YtgeldmhgbnamcaaW.PrintLast Go.Proofs.YtgeldmhgbnamcaaW.PrintMore
attribute [local go_sem] max2_int min2_int max_two min_two max_three min_three max_four min_four   -- for this text's walks alone
set_option linter.unusedVariables false
set_option linter.unusedSimpArgs false
/-! ### marchlandlaw06_FrontWays: function 13 -/
mutual
def marchlandlaw06_FrontWays.j0 : Nat → Int → Int → List (List Int) → List Int → Bool → Int → List (S90) → List Int → Option (Bool)
 | 0, _, _, _, _, _, _, _, _ => none
 | k + 1, x7, x8, x9, x10, x57, x946000, x946001, x946002 => if x57 = true then (some false) else (marchlandlaw06_FrontWays.l0 k x7 x8 x9 x10 0 x946000 x946001 x946002)
def marchlandlaw06_FrontWays.l0 : Nat → Int → Int → List (List Int) → List Int → Int → Int → List (S90) → List Int → Option (Bool)
 | 0, _, _, _, _, _, _, _, _ => none
 | k + 1, x7, x8, x9, x10, x11, x946000, x946001, x946002 => if x11 < x946000 then (if 0 ≤ x11 then (if x11 < (x10.length : Int) then (if 0 ≤ x7 then (if x7 < (x9.length : Int) then (if x11 < ((rd_L7 x9 x7).length : Int) then ((marchlandref01_Plus.f x8 (rd (rd_L7 x9 x7) x11)).bind fun t974 => (if (rd x10 x11) = t974 then (marchlandlaw06_FrontWays.l0 k x7 x8 x9 x10 (wrap64 (x11 + 1)) x946000 x946001 x946002) else (some false))) else (none)) else (none)) else (none)) else (none)) else (none)) else (if 0 ≤ x7 then (if x7 < (x10.length : Int) then (some ((rd x10 x7) == x8)) else (none)) else (none))
end
def marchlandlaw06_FrontWays.f (k : Nat) (a0_0 : Int) (l0_1 : List (S90)) (l0_2 : List Int) (a1 : Int) (a2 : Int) : Option (Bool) := (marchlandref05_Fix.f k a0_0 l0_1 l0_2).bind fun bt946 => (if (IntKind.u64.wrap (bt946.1)) = 0 then (none) else ((marchlandlaw05_To.f k bt946.1 bt946.2.1 bt946.2.2).bind fun bt953 => ((graph_Paths.f k bt953.1 bt953.2.1 bt953.2.2).bind fun t960 => ((front_Of.f k t960 (([(⟨wrap64 (Int.tmod (IntKind.u64.wrap (a1)) (IntKind.u64.wrap (bt946.1))), Int.tmod a2 18446744073709551615, 1⟩ : S50)] : List (S50)))).bind fun t966 => ((marchlandlaw06_told.f).bind fun t969 => (if t969 = true then (if (t966.length : Int) = bt946.1 then (if (t960.length : Int) = bt946.1 then (if 0 ≤ (wrap64 (Int.tmod (IntKind.u64.wrap (a1)) (IntKind.u64.wrap (bt946.1)))) then (if (wrap64 (Int.tmod (IntKind.u64.wrap (a1)) (IntKind.u64.wrap (bt946.1)))) < (t960.length : Int) then (marchlandlaw06_FrontWays.j0 k (wrap64 (Int.tmod (IntKind.u64.wrap (a1)) (IntKind.u64.wrap (bt946.1)))) (Int.tmod a2 18446744073709551615) t960 t966 (((rd_L7 t960 (wrap64 (Int.tmod (IntKind.u64.wrap (a1)) (IntKind.u64.wrap (bt946.1))))).length : Int) != bt946.1) bt946.1 bt946.2.1 bt946.2.2) else (none)) else (none)) else (marchlandlaw06_FrontWays.j0 k (wrap64 (Int.tmod (IntKind.u64.wrap (a1)) (IntKind.u64.wrap (bt946.1)))) (Int.tmod a2 18446744073709551615) t960 t966 true bt946.1 bt946.2.1 bt946.2.2)) else (marchlandlaw06_FrontWays.j0 k (wrap64 (Int.tmod (IntKind.u64.wrap (a1)) (IntKind.u64.wrap (bt946.1)))) (Int.tmod a2 18446744073709551615) t960 t966 true bt946.1 bt946.2.1 bt946.2.2)) else (marchlandlaw06_FrontWays.j0 k (wrap64 (Int.tmod (IntKind.u64.wrap (a1)) (IntKind.u64.wrap (bt946.1)))) (Int.tmod a2 18446744073709551615) t960 t966 true bt946.1 bt946.2.1 bt946.2.2)))))))
def marchlandlaw06_FrontWays.T6 : Bool × List (List Nat × List Nat) := (true, [([], []), ([0], [0]), ([1, 0], [1]), ([2], [2]), ([3, 2], [2, 3]), ([2], [2]), ([5, 2], [2, 5]), ([4, 6, 2], [2, 4, 6]), ([2, 7], [2, 7]), ([8, 2], [8]), ([9], [9]), ([10, 9], [9, 10]), ([9], [9]), ([12, 9], [9, 12]), ([11, 13, 9], [9, 11, 13]), ([9, 14], [9, 14]), ([15, 9], [15]), ([16], [16]), ([16], [16]), ([17, 18, 16], [16, 17, 18]), ([19, 16], [16, 19]), ([20, 16], [16, 20]), ([16], [16]), ([22, 16], [16, 22]), ([21, 23, 16], [16, 21, 23]), ([16, 24], [16, 24])])
def marchlandlaw06_FrontWays.B6 : List Nat := [0, 1, 3, 7, 15, 7, 39, 127, 255, 511, 1023, 2047, 1023, 5119, 16383, 32767, 65535, 131071, 131071, 524287, 1048575, 2097151, 131071, 4325375, 16777215, 33554431]
theorem marchlandlaw06_FrontWays.tab6 : rtab .any (opsOf Try.f13 6) = marchlandlaw06_FrontWays.T6 := by kernel_rfl
theorem marchlandlaw06_FrontWays.bits6 : waitsOk marchlandlaw06_FrontWays.T6.2 marchlandlaw06_FrontWays.B6 = true := by kernel_rfl
def marchlandlaw06_FrontWays.T11 : Bool × List (List Nat × List Nat) := (true, [([], []), ([], []), ([0, 1], [0, 1]), ([2], [2]), ([], []), ([], []), ([], []), ([5, 6], [5, 6]), ([7], [7]), ([], []), ([8, 9], [8, 9]), ([10], [10]), ([4, 11], [4, 11]), ([3, 12], [3, 12])])
def marchlandlaw06_FrontWays.B11 : List Nat := [0, 0, 3, 7, 0, 0, 0, 96, 224, 0, 992, 2016, 4080, 8191]
theorem marchlandlaw06_FrontWays.tab11 : rtab .any (opsOf Try.f13 11) = marchlandlaw06_FrontWays.T11 := by kernel_rfl
theorem marchlandlaw06_FrontWays.bits11 : waitsOk marchlandlaw06_FrontWays.T11.2 marchlandlaw06_FrontWays.B11 = true := by kernel_rfl
set_option maxHeartbeats 8000000 in
set_option maxRecDepth 100000 in
theorem marchlandlaw06_FrontWays.calls (k : Nat) (a0_0 : Int) (A0_1 : Option Addr) (c0_1 : Nat) (l0_1 : List (S90)) (A0_2 : Option Addr) (c0_2 : Nat) (l0_2 : List Int) (a1 : Int) (a2 : Int) (r : Bool) (w : World) (hr0_1 : Kd.C k90 w A0_1 l0_1.length l0_1) (hc0_1 : l0_1.length ≤ c0_1) (hr0_2 : Kd.C (Kd.int .i64) w A0_2 l0_2.length l0_2) (hc0_2 : l0_2.length ≤ c0_2) (h : marchlandlaw06_FrontWays.f k a0_0 l0_1 l0_2 a1 a2 = some r) :
  Calls Try.prog 13 #[.agg #[.int .i64 a0_0, .slice A0_1 l0_1.length c0_1, .slice A0_2 l0_2.length c0_2], .int .i64 a1, .int .u64 a2] w fun e w' => e = .returned (.bool r) ∧ Below w.heap.size w w' := by
 have hu58 := Try.underlying58
 have hu50 := Try.underlying50
 have HR0_1 := Aside0.mk hr0_1
 have HC0_1 := Aside0.mk hc0_1
 clear hr0_1 hc0_1
 have HR0_2 := Aside0.mk hr0_2
 have HC0_2 := Aside0.mk hc0_2
 clear hr0_2 hc0_2
 have HB := Aside0.mk (Below.refl w.heap.size w)
 have H : ((marchlandref05_Fix.f k a0_0 l0_1 l0_2).bind fun bt946 => (if (IntKind.u64.wrap (bt946.1)) = 0 then (none) else ((marchlandlaw05_To.f k bt946.1 bt946.2.1 bt946.2.2).bind fun bt953 => ((graph_Paths.f k bt953.1 bt953.2.1 bt953.2.2).bind fun t960 => ((front_Of.f k t960 (([(⟨wrap64 (Int.tmod (IntKind.u64.wrap (a1)) (IntKind.u64.wrap (bt946.1))), Int.tmod a2 18446744073709551615, 1⟩ : S50)] : List (S50)))).bind fun t966 => ((marchlandlaw06_told.f).bind fun t969 => (if t969 = true then (if (t966.length : Int) = bt946.1 then (if (t960.length : Int) = bt946.1 then (if 0 ≤ (wrap64 (Int.tmod (IntKind.u64.wrap (a1)) (IntKind.u64.wrap (bt946.1)))) then (if (wrap64 (Int.tmod (IntKind.u64.wrap (a1)) (IntKind.u64.wrap (bt946.1)))) < (t960.length : Int) then (marchlandlaw06_FrontWays.j0 k (wrap64 (Int.tmod (IntKind.u64.wrap (a1)) (IntKind.u64.wrap (bt946.1)))) (Int.tmod a2 18446744073709551615) t960 t966 (((rd_L7 t960 (wrap64 (Int.tmod (IntKind.u64.wrap (a1)) (IntKind.u64.wrap (bt946.1))))).length : Int) != bt946.1) bt946.1 bt946.2.1 bt946.2.2) else (none)) else (none)) else (marchlandlaw06_FrontWays.j0 k (wrap64 (Int.tmod (IntKind.u64.wrap (a1)) (IntKind.u64.wrap (bt946.1)))) (Int.tmod a2 18446744073709551615) t960 t966 true bt946.1 bt946.2.1 bt946.2.2)) else (marchlandlaw06_FrontWays.j0 k (wrap64 (Int.tmod (IntKind.u64.wrap (a1)) (IntKind.u64.wrap (bt946.1)))) (Int.tmod a2 18446744073709551615) t960 t966 true bt946.1 bt946.2.1 bt946.2.2)) else (marchlandlaw06_FrontWays.j0 k (wrap64 (Int.tmod (IntKind.u64.wrap (a1)) (IntKind.u64.wrap (bt946.1)))) (Int.tmod a2 18446744073709551615) t960 t966 true bt946.1 bt946.2.1 bt946.2.2)))))))) = some r := h
 clear h
 replace H := Option.bind_eq_some_iff.mp H
 obtain ⟨⟨t946, t947, t950⟩, A40, H⟩ := H
 replace H : (if (IntKind.u64.wrap (t946)) = 0 then (none) else ((marchlandlaw05_To.f k t946 t947 t950).bind fun bt953 => ((graph_Paths.f k bt953.1 bt953.2.1 bt953.2.2).bind fun t960 => ((front_Of.f k t960 (([(⟨wrap64 (Int.tmod (IntKind.u64.wrap (a1)) (IntKind.u64.wrap (t946))), Int.tmod a2 18446744073709551615, 1⟩ : S50)] : List (S50)))).bind fun t966 => ((marchlandlaw06_told.f).bind fun t969 => (if t969 = true then (if (t966.length : Int) = t946 then (if (t960.length : Int) = t946 then (if 0 ≤ (wrap64 (Int.tmod (IntKind.u64.wrap (a1)) (IntKind.u64.wrap (t946)))) then (if (wrap64 (Int.tmod (IntKind.u64.wrap (a1)) (IntKind.u64.wrap (t946)))) < (t960.length : Int) then (marchlandlaw06_FrontWays.j0 k (wrap64 (Int.tmod (IntKind.u64.wrap (a1)) (IntKind.u64.wrap (t946)))) (Int.tmod a2 18446744073709551615) t960 t966 (((rd_L7 t960 (wrap64 (Int.tmod (IntKind.u64.wrap (a1)) (IntKind.u64.wrap (t946))))).length : Int) != t946) t946 t947 t950) else (none)) else (none)) else (marchlandlaw06_FrontWays.j0 k (wrap64 (Int.tmod (IntKind.u64.wrap (a1)) (IntKind.u64.wrap (t946)))) (Int.tmod a2 18446744073709551615) t960 t966 true t946 t947 t950)) else (marchlandlaw06_FrontWays.j0 k (wrap64 (Int.tmod (IntKind.u64.wrap (a1)) (IntKind.u64.wrap (t946)))) (Int.tmod a2 18446744073709551615) t960 t966 true t946 t947 t950)) else (marchlandlaw06_FrontWays.j0 k (wrap64 (Int.tmod (IntKind.u64.wrap (a1)) (IntKind.u64.wrap (t946)))) (Int.tmod a2 18446744073709551615) t960 t966 true t946 t947 t950))))))) = some r := H
 have A4 := Aside0.mk A40
 clear A40
 by_cases c5 : (IntKind.u64.wrap (t946)) = 0
 ·rw [if_pos c5] at H
  exact absurd H (by simp)
 ·rw [if_neg c5] at H
  have c5b0 : ((IntKind.u64.wrap (t946)) == 0) = false := beq_eq_false_iff_ne.mpr c5
  have c5b1 : ((IntKind.u64.wrap (t946)) != 0) = true := bne_iff_ne.mpr c5
  replace H := Option.bind_eq_some_iff.mp H
  obtain ⟨⟨t953, t954, t957⟩, A60, H⟩ := H
  replace H : ((graph_Paths.f k t953 t954 t957).bind fun t960 => ((front_Of.f k t960 (([(⟨wrap64 (Int.tmod (IntKind.u64.wrap (a1)) (IntKind.u64.wrap (t946))), Int.tmod a2 18446744073709551615, 1⟩ : S50)] : List (S50)))).bind fun t966 => ((marchlandlaw06_told.f).bind fun t969 => (if t969 = true then (if (t966.length : Int) = t946 then (if (t960.length : Int) = t946 then (if 0 ≤ (wrap64 (Int.tmod (IntKind.u64.wrap (a1)) (IntKind.u64.wrap (t946)))) then (if (wrap64 (Int.tmod (IntKind.u64.wrap (a1)) (IntKind.u64.wrap (t946)))) < (t960.length : Int) then (marchlandlaw06_FrontWays.j0 k (wrap64 (Int.tmod (IntKind.u64.wrap (a1)) (IntKind.u64.wrap (t946)))) (Int.tmod a2 18446744073709551615) t960 t966 (((rd_L7 t960 (wrap64 (Int.tmod (IntKind.u64.wrap (a1)) (IntKind.u64.wrap (t946))))).length : Int) != t946) t946 t947 t950) else (none)) else (none)) else (marchlandlaw06_FrontWays.j0 k (wrap64 (Int.tmod (IntKind.u64.wrap (a1)) (IntKind.u64.wrap (t946)))) (Int.tmod a2 18446744073709551615) t960 t966 true t946 t947 t950)) else (marchlandlaw06_FrontWays.j0 k (wrap64 (Int.tmod (IntKind.u64.wrap (a1)) (IntKind.u64.wrap (t946)))) (Int.tmod a2 18446744073709551615) t960 t966 true t946 t947 t950)) else (marchlandlaw06_FrontWays.j0 k (wrap64 (Int.tmod (IntKind.u64.wrap (a1)) (IntKind.u64.wrap (t946)))) (Int.tmod a2 18446744073709551615) t960 t966 true t946 t947 t950))))) = some r := H
  have A6 := Aside0.mk A60
  clear A60
  replace H := Option.bind_eq_some_iff.mp H
  obtain ⟨t960, A70, H⟩ := H
  replace H : ((front_Of.f k t960 (([(⟨wrap64 (Int.tmod (IntKind.u64.wrap (a1)) (IntKind.u64.wrap (t946))), Int.tmod a2 18446744073709551615, 1⟩ : S50)] : List (S50)))).bind fun t966 => ((marchlandlaw06_told.f).bind fun t969 => (if t969 = true then (if (t966.length : Int) = t946 then (if (t960.length : Int) = t946 then (if 0 ≤ (wrap64 (Int.tmod (IntKind.u64.wrap (a1)) (IntKind.u64.wrap (t946)))) then (if (wrap64 (Int.tmod (IntKind.u64.wrap (a1)) (IntKind.u64.wrap (t946)))) < (t960.length : Int) then (marchlandlaw06_FrontWays.j0 k (wrap64 (Int.tmod (IntKind.u64.wrap (a1)) (IntKind.u64.wrap (t946)))) (Int.tmod a2 18446744073709551615) t960 t966 (((rd_L7 t960 (wrap64 (Int.tmod (IntKind.u64.wrap (a1)) (IntKind.u64.wrap (t946))))).length : Int) != t946) t946 t947 t950) else (none)) else (none)) else (marchlandlaw06_FrontWays.j0 k (wrap64 (Int.tmod (IntKind.u64.wrap (a1)) (IntKind.u64.wrap (t946)))) (Int.tmod a2 18446744073709551615) t960 t966 true t946 t947 t950)) else (marchlandlaw06_FrontWays.j0 k (wrap64 (Int.tmod (IntKind.u64.wrap (a1)) (IntKind.u64.wrap (t946)))) (Int.tmod a2 18446744073709551615) t960 t966 true t946 t947 t950)) else (marchlandlaw06_FrontWays.j0 k (wrap64 (Int.tmod (IntKind.u64.wrap (a1)) (IntKind.u64.wrap (t946)))) (Int.tmod a2 18446744073709551615) t960 t966 true t946 t947 t950)))) = some r := H
  have A7 := Aside0.mk A70
  clear A70
  obtain ⟨y963, hy963⟩ : ∃ y_ : List (S50), y_ = (([(⟨wrap64 (Int.tmod (IntKind.u64.wrap (a1)) (IntKind.u64.wrap (t946))), Int.tmod a2 18446744073709551615, 1⟩ : S50)] : List (S50))) := ⟨_, rfl⟩
  replace H : ((front_Of.f k t960 y963).bind fun t966 => ((marchlandlaw06_told.f).bind fun t969 => (if t969 = true then (if (t966.length : Int) = t946 then (if (t960.length : Int) = t946 then (if 0 ≤ (wrap64 (Int.tmod (IntKind.u64.wrap (a1)) (IntKind.u64.wrap (t946)))) then (if (wrap64 (Int.tmod (IntKind.u64.wrap (a1)) (IntKind.u64.wrap (t946)))) < (t960.length : Int) then (marchlandlaw06_FrontWays.j0 k (wrap64 (Int.tmod (IntKind.u64.wrap (a1)) (IntKind.u64.wrap (t946)))) (Int.tmod a2 18446744073709551615) t960 t966 (((rd_L7 t960 (wrap64 (Int.tmod (IntKind.u64.wrap (a1)) (IntKind.u64.wrap (t946))))).length : Int) != t946) t946 t947 t950) else (none)) else (none)) else (marchlandlaw06_FrontWays.j0 k (wrap64 (Int.tmod (IntKind.u64.wrap (a1)) (IntKind.u64.wrap (t946)))) (Int.tmod a2 18446744073709551615) t960 t966 true t946 t947 t950)) else (marchlandlaw06_FrontWays.j0 k (wrap64 (Int.tmod (IntKind.u64.wrap (a1)) (IntKind.u64.wrap (t946)))) (Int.tmod a2 18446744073709551615) t960 t966 true t946 t947 t950)) else (marchlandlaw06_FrontWays.j0 k (wrap64 (Int.tmod (IntKind.u64.wrap (a1)) (IntKind.u64.wrap (t946)))) (Int.tmod a2 18446744073709551615) t960 t966 true t946 t947 t950)))) = some r := by first | (rw [hy963]; with_reducible exact H) | (have H2_ := (Option.bind_some _ _).symm.trans H; rw [hy963]; with_reducible exact H2_) | (have H2_ := (Option.bind_some _ _).symm.trans H; with_reducible exact H2_) | with_reducible exact H | (rw [hy963]; exact H) | exact H
  have Ny963 := Aside0.mk hy963
  clear hy963
  replace H := Option.bind_eq_some_iff.mp H
  obtain ⟨t966, A80, H⟩ := H
  replace H : ((marchlandlaw06_told.f).bind fun t969 => (if t969 = true then (if (t966.length : Int) = t946 then (if (t960.length : Int) = t946 then (if 0 ≤ (wrap64 (Int.tmod (IntKind.u64.wrap (a1)) (IntKind.u64.wrap (t946)))) then (if (wrap64 (Int.tmod (IntKind.u64.wrap (a1)) (IntKind.u64.wrap (t946)))) < (t960.length : Int) then (marchlandlaw06_FrontWays.j0 k (wrap64 (Int.tmod (IntKind.u64.wrap (a1)) (IntKind.u64.wrap (t946)))) (Int.tmod a2 18446744073709551615) t960 t966 (((rd_L7 t960 (wrap64 (Int.tmod (IntKind.u64.wrap (a1)) (IntKind.u64.wrap (t946))))).length : Int) != t946) t946 t947 t950) else (none)) else (none)) else (marchlandlaw06_FrontWays.j0 k (wrap64 (Int.tmod (IntKind.u64.wrap (a1)) (IntKind.u64.wrap (t946)))) (Int.tmod a2 18446744073709551615) t960 t966 true t946 t947 t950)) else (marchlandlaw06_FrontWays.j0 k (wrap64 (Int.tmod (IntKind.u64.wrap (a1)) (IntKind.u64.wrap (t946)))) (Int.tmod a2 18446744073709551615) t960 t966 true t946 t947 t950)) else (marchlandlaw06_FrontWays.j0 k (wrap64 (Int.tmod (IntKind.u64.wrap (a1)) (IntKind.u64.wrap (t946)))) (Int.tmod a2 18446744073709551615) t960 t966 true t946 t947 t950))) = some r := H
  have A8 := Aside0.mk A80
  clear A80
  have HC9 := Aside0.mk H
  clear H
  go_enter Try.func13, Try.ntmps13
  go_upto_region 6 with (first | ((with_reducible refine gate_dst (N := 3) rfl ?_); (try (refine gate_guard (by rfl) ?_; dsimp only)); refine box_event ?hg (N := 3) ?hd (cs := #[.int .i64 a0_0, .slice A0_1 l0_1.length c0_1, .slice A0_2 l0_2.length c0_2]) (t := 58) ?hr ?_; (case hd => rfl); (case hg => rfl); (case hr => first | (go_simp; done) | (go_simp; rfl)); intro gb945 hg w10 hbox hb; have n1_ := Aside0.mk (hbox); have n2_ := Aside0.mk ((by rw [hg]; exact (below_size (bn HB)) : w.heap.size ≤ gb945)); have n3_ := Aside0.mk ((by rw [hg]; exact (below_size (bn HB)) : w.heap.size ≤ gb945)); replace HB := bb HB hb; have BK945 := n1_; have GW945 := n2_; have GE945 := n3_; clear n1_ n2_ n3_; clear hb hbox hg; have hcz11_0 : w10.cell? ⟨gb945, 0, none⟩ = some (.int .i64 a0_0) := (blk_cell BK945.out 0).trans rfl; have hcz11_1 : w10.cell? ⟨gb945, 1, none⟩ = some (.slice A0_1 l0_1.length c0_1) := (blk_cell BK945.out 1).trans rfl; have hcz11_2 : w10.cell? ⟨gb945, 2, none⟩ = some (.slice A0_2 l0_2.length c0_2) := (blk_cell BK945.out 2).trans rfl; have hfz11_0 := blk_frozen BK945.out 0; have hfz11_1 := blk_frozen BK945.out 1; have hfz11_2 := blk_frozen BK945.out 2) | ((with_reducible refine gate_callee (f := 38) rfl ?_); refine gl (some 13) Try.func38 #[.agg #[.int .i64 a0_0, .slice A0_1 l0_1.length c0_1, .slice A0_2 l0_2.length c0_2]] ?_; (with_reducible refine (marchlandref05_Fix.calls k a0_0 _ _ l0_1 _ _ l0_2 t946 t947 t950 _ ?side1 ?side2 ?side3 ?side4 A4.out).mono ?_); (case side1 => repeat (first | exact (Kd.C_below HR0_1.out HB.out) | (with_reducible refine Kd.C_alloc ?_ _) | (with_reducible refine Kd.C_drewN ?_ _) | (with_reducible refine Kd.C_drew ?_))); (case side2 => exact HC0_1.out); (case side3 => repeat (first | exact (Kd.C_below HR0_2.out HB.out) | (with_reducible refine Kd.C_alloc ?_ _) | (with_reducible refine Kd.C_drewN ?_ _) | (with_reducible refine Kd.C_drew ?_))); (case side4 => exact HC0_2.out); rintro e w12 ⟨v948, v951, rfl, ho0, ho1, hb⟩; refine ⟨_, rfl, ?_⟩; have n0_ := Aside0.mk (Kd.R_lower ho0 (below_size (bn1 HB GE945))); have n1_ := Aside0.mk (Kd.R_lower ho1 (below_size (bn1 HB GE945))); have n2_ := Aside0.mk (bkb BK945 hb); have n3_ := Aside0.mk (below_step (bn1 HB GE945) hb); clear BK945; clear HB; have HO949 := n0_; have HO952 := n1_; have BK945 := n2_; have HB := n3_; clear n0_ n1_ n2_ n3_; (try clear hb); (try clear ho0); (try clear ho1); have hcz13_0 : w12.cell? ⟨gb945, 0, none⟩ = some (.int .i64 a0_0) := (blk_cell BK945.out 0).trans rfl; have hcz13_1 : w12.cell? ⟨gb945, 1, none⟩ = some (.slice A0_1 l0_1.length c0_1) := (blk_cell BK945.out 1).trans rfl; have hcz13_2 : w12.cell? ⟨gb945, 2, none⟩ = some (.slice A0_2 l0_2.length c0_2) := (blk_cell BK945.out 2).trans rfl; have hfz13_0 := blk_frozen BK945.out 0; have hfz13_1 := blk_frozen BK945.out 1; have hfz13_2 := blk_frozen BK945.out 2; obtain ⟨Ao14, co14, eo14⟩ := Kd.R_slice HO949.out; subst eo14; obtain ⟨Ao15, co15, eo15⟩ := Kd.R_slice HO952.out; subst eo15) | ((with_reducible refine gate_callee (f := 40) rfl ?_); refine gl (some 24) Try.func40 #[.agg #[.int .i64 t946, .slice Ao14 t947.length co14, .slice Ao15 t950.length co15]] ?_; (with_reducible refine (marchlandlaw05_To.calls k t946 _ _ t947 _ _ t950 t953 t954 t957 _ ?side1 ?side2 ?side3 ?side4 A6.out).mono ?_); (case side1 => refine (Kd.R_reads' (e := 90) (base := w.heap.size) (ok := fun k_ => True) (n := t947.length) (c := co14) ?_).2.2; exact (by (with_reducible repeat (first | apply Kd.R_alloc | apply Kd.R_drewN | apply Kd.R_drew)); exact (Kd.R_mono (Kd.R_far (p := ⟨gb945, 2, none⟩) (Kd.R_far (p := ⟨gb945, 1, none⟩) (Kd.R_far (p := ⟨gb945, 0, none⟩) (Kd.R_types HO949.out BK945.out (by decide)) (fun _ hk => hk.2) (.int .i64 t946)) (fun _ hk => hk.2) (.slice Ao14 t947.length co14)) (fun _ hk => hk.2) (.slice Ao15 t950.length co15)) (fun _ h_ => h_.1)))); (case side2 => exact rs HO949); (case side3 => refine (Kd.R_reads' (e := 3) (base := w.heap.size) (ok := fun k_ => True) (n := t950.length) (c := co15) ?_).2.2; exact (by (with_reducible repeat (first | apply Kd.R_alloc | apply Kd.R_drewN | apply Kd.R_drew)); exact (Kd.R_mono (Kd.R_far (p := ⟨gb945, 2, none⟩) (Kd.R_far (p := ⟨gb945, 1, none⟩) (Kd.R_far (p := ⟨gb945, 0, none⟩) (Kd.R_types HO952.out BK945.out (by decide)) (fun _ hk => hk.2) (.int .i64 t946)) (fun _ hk => hk.2) (.slice Ao14 t947.length co14)) (fun _ hk => hk.2) (.slice Ao15 t950.length co15)) (fun _ h_ => h_.1)))); (case side4 => exact rs HO952); rintro e w16 ⟨v955, v958, rfl, ho0, ho1, hb⟩; refine ⟨_, rfl, ?_⟩; have n0_ := Aside0.mk (Kd.R_below (by (with_reducible repeat (first | apply Kd.R_alloc | apply Kd.R_drewN | apply Kd.R_drew)); exact (Kd.R_mono (Kd.R_far (p := ⟨gb945, 2, none⟩) (Kd.R_far (p := ⟨gb945, 1, none⟩) (Kd.R_far (p := ⟨gb945, 0, none⟩) (Kd.R_types HO949.out BK945.out (by decide)) (fun _ hk => hk.2) (.int .i64 t946)) (fun _ hk => hk.2) (.slice Ao14 t947.length co14)) (fun _ hk => hk.2) (.slice Ao15 t950.length co15)) (fun _ h_ => h_.1))) hb); have n1_ := Aside0.mk (Kd.R_elder' (by (with_reducible repeat (first | apply Kd.R_alloc | apply Kd.R_drewN | apply Kd.R_drew)); exact (Kd.R_mono (Kd.R_far (p := ⟨gb945, 2, none⟩) (Kd.R_far (p := ⟨gb945, 1, none⟩) (Kd.R_far (p := ⟨gb945, 0, none⟩) (Kd.R_types HO952.out BK945.out (by decide)) (fun _ hk => hk.2) (.int .i64 t946)) (fun _ hk => hk.2) (.slice Ao14 t947.length co14)) (fun _ hk => hk.2) (.slice Ao15 t950.length co15)) (fun _ h_ => h_.1))) (Kd.R_base ho1) hb); have n2_ := Aside0.mk (Kd.R_lower ho0 (below_size (bn1 HB GE945))); have n3_ := Aside0.mk (Kd.R_lower (Kd.R_new' ho1 (Kd.R_lt (by (with_reducible repeat (first | apply Kd.R_alloc | apply Kd.R_drewN | apply Kd.R_drew)); exact (Kd.R_mono (Kd.R_far (p := ⟨gb945, 2, none⟩) (Kd.R_far (p := ⟨gb945, 1, none⟩) (Kd.R_far (p := ⟨gb945, 0, none⟩) (Kd.R_types HO952.out BK945.out (by decide)) (fun _ hk => hk.2) (.int .i64 t946)) (fun _ hk => hk.2) (.slice Ao14 t947.length co14)) (fun _ hk => hk.2) (.slice Ao15 t950.length co15)) (fun _ h_ => h_.1))))) (below_size (bn1 HB GE945))); have n4_ := Aside0.mk (blk_below (g := gb945) (o := .cells #[.int .i64 t946, .slice Ao14 t947.length co14, .slice Ao15 t950.length co15] 58 (0, 0)) (by (with_reducible repeat (first | refine blk_drewN ?_ _ | refine blk_drew ?_ | refine blk_alloc ?_ _)); refine blk_put (cs := #[.int .i64 t946, .slice Ao14 t947.length co14, .slice A0_2 l0_2.length c0_2]) ?_ 2 _ rfl; (with_reducible repeat (first | refine blk_drewN ?_ _ | refine blk_drew ?_ | refine blk_alloc ?_ _)); refine blk_put (cs := #[.int .i64 t946, .slice A0_1 l0_1.length c0_1, .slice A0_2 l0_2.length c0_2]) ?_ 1 _ rfl; (with_reducible repeat (first | refine blk_drewN ?_ _ | refine blk_drew ?_ | refine blk_alloc ?_ _)); refine blk_put (cs := #[.int .i64 a0_0, .slice A0_1 l0_1.length c0_1, .slice A0_2 l0_2.length c0_2]) ?_ 0 _ rfl; (with_reducible repeat (first | refine blk_drewN ?_ _ | refine blk_drew ?_ | refine blk_alloc ?_ _)); exact BK945.out) hb); have n5_ := Aside0.mk (below_step (bn1 HB GE945) hb); clear HO949; clear HO952; clear BK945; clear HB; have HO949 := n0_; have HO952 := n1_; have HO956 := n2_; have HO959 := n3_; have BK945 := n4_; have HB := n5_; clear n0_ n1_ n2_ n3_ n4_ n5_; (try clear hb); (try clear hk); (try clear ho0); (try clear ho1); obtain ⟨Ao17, co17, eo17⟩ := Kd.R_slice HO956.out; subst eo17; obtain ⟨Ao18, co18, eo18⟩ := Kd.R_slice HO959.out; subst eo18) | ((with_reducible refine gate_callee (f := 39) rfl ?_); refine gl (some 25) Try.func39 #[.agg #[.int .i64 t953, .slice Ao17 t954.length co17, .slice Ao18 t957.length co18]] ?_; (with_reducible refine (graph_Paths.calls k t953 _ _ t954 _ _ t957 t960 _ ?side1 ?side2 ?side3 ?side4 A7.out).mono ?_); (case side1 => exact rc HO956); (case side2 => exact rs HO956); (case side3 => exact rc HO959); (case side4 => exact rs HO959); rintro e w19 ⟨v961, rfl, ho0, hb⟩; refine ⟨_, rfl, ?_⟩; have n4_ := Aside0.mk (Kd.S_lower ho0 (below_size (bn1 HB GE945))); have n5_ := Aside0.mk (bkb BK945 hb); have n6_ := Aside0.mk (below_step (bn1 HB GE945) hb); clear BK945; clear HB; replace HO949 := rb HO949 hb; replace HO952 := rb HO952 hb; replace HO956 := rb HO956 hb; replace HO959 := rb HO959 hb; have HO962 := n4_; have BK945 := n5_; have HB := n6_; clear n4_ n5_ n6_; (try clear hb); (try clear ho0)) | ((with_reducible refine gate_dst (N := 30) rfl ?_); (try (refine gate_guard (by rfl) ?_; dsimp only)); refine Kd.R_lit k50 _ 50 ?hg (N := 30) ?hd (xs := ([(⟨wrap64 (Int.tmod (IntKind.u64.wrap (a1)) (IntKind.u64.wrap (t946))), Int.tmod a2 18446744073709551615, 1⟩ : S50)] : List (S50))) (inner := [.int .i64 (wrap64 (Int.tmod (IntKind.u64.wrap (a1)) (IntKind.u64.wrap (t946)))), .int .u64 (Int.tmod a2 18446744073709551615), .int .i64 1]) (ok := fun _ => True) (okp := fun _ => True) ?hr ?hp (fun _ hk => hk) trivial (Below.refl _ _) (Nat.le_refl _) (by simp) ?_; (case hd => rfl); (case hg => rfl); (case hr => first | (go_simp; done) | (go_simp; rfl)); (case hp => exact (Reps.c3 (show Kd.M k50 _ _ _ (⟨wrap64 (Int.tmod (IntKind.u64.wrap (a1)) (IntKind.u64.wrap (t946))), Int.tmod a2 18446744073709551615, 1⟩ : S50) [.int .i64 (wrap64 (Int.tmod (IntKind.u64.wrap (a1)) (IntKind.u64.wrap (t946)))), .int .u64 (Int.tmod a2 18446744073709551615), .int .i64 1] from (k50_mkM _ _ _ (⟨wrap64 (Int.tmod (IntKind.u64.wrap (a1)) (IntKind.u64.wrap (t946))), Int.tmod a2 18446744073709551615, 1⟩ : S50) )) (Reps.none _ _))); intro v964 w20 ho21 hb hg_ hnew_; clear hg_ hnew_; (first | rw [← Ny963.out] at ho21 | (simp only [Int.reduceToNat] at ho21; rw [← Ny963.out] at ho21)); have n4_ := Aside0.mk (Kd.S_below (sn HO962) hb); have n5_ := Aside0.mk (Kd.R_lower ho21 (below_size (bn1 HB GE945))); have n6_ := Aside0.mk (bkb BK945 hb); have n7_ := Aside0.mk (below_step (bn1 HB GE945) hb); clear HO962; clear BK945; clear HB; replace HO949 := rb HO949 hb; replace HO952 := rb HO952 hb; replace HO956 := rb HO956 hb; replace HO959 := rb HO959 hb; have HO962 := n4_; have HO965 := n5_; have BK945 := n6_; have HB := n7_; clear n4_ n5_ n6_ n7_; clear hb ho21; obtain ⟨Ao22, co22, eo22⟩ := Kd.S_slice HO962.out; subst eo22; obtain ⟨Ao23, co23, eo23⟩ := Kd.R_slice HO965.out; subst eo23) | ((with_reducible refine gate_callee (f := 43) rfl ?_); refine gl (some 31) Try.func43 #[.slice Ao22 t960.length co22, .slice Ao23 y963.length co23] ?_; (with_reducible refine (front_Of.calls k _ _ t960 _ _ y963 t966 _ ?side1 ?side2 ?side3 ?side4 A8.out).mono ?_); (case side1 => repeat (first | exact (Kd.S_reads' HO962.out).2.2 | (with_reducible refine Kd.C_alloc ?_ _) | (with_reducible refine Kd.C_drewN ?_ _) | (with_reducible refine Kd.C_drew ?_))); (case side2 => exact (Kd.S_reads' HO962.out).2.1); (case side3 => exact rc HO965); (case side4 => exact rs HO965); rintro e w24 ⟨v967, rfl, ho0, hb⟩; refine ⟨_, rfl, ?_⟩; have n4_ := Aside0.mk (Kd.S_elder' (sn HO962) (Kd.R_base ho0) hb); have n6_ := Aside0.mk (Kd.R_lower ho0 (below_size (bn1 HB GE945))); have n7_ := Aside0.mk (bkb BK945 hb); have n8_ := Aside0.mk (below_step (bn1 HB GE945) hb); clear HO962; clear BK945; clear HB; replace HO949 := rb HO949 hb; replace HO952 := rb HO952 hb; replace HO956 := rb HO956 hb; replace HO959 := rb HO959 hb; have HO962 := n4_; replace HO965 := rb HO965 hb; have HO968 := n6_; have BK945 := n7_; have HB := n8_; clear n4_ n6_ n7_ n8_; (try clear hb); (try clear ho0)))
  (try simp only [Act.put, List.setIfInBounds_toArray, List.set_cons_zero, List.set_cons_succ])
  go_cut [57] (fun v57 wc => ∃ (kq : Nat) (x57_8 : Bool), v57 = .bool x57_8 ∧ Aside0 (marchlandlaw06_FrontWays.j0 kq (wrap64 (Int.tmod (IntKind.u64.wrap (a1)) (IntKind.u64.wrap (t946)))) (Int.tmod a2 18446744073709551615) t960 t966 x57_8 t946 t947 t950 = some r) ∧ Aside0 (kq ≤ k) ∧ Aside0 (Kd.S (Kd.slice 38 (Kd.int .u64)) 67 wc w.heap.size (fun k_ => some k_ ≠ (v967 : Value).ownBlock) (.slice Ao22 t960.length co22) t960) ∧ Aside0 (Kd.R (Kd.int .u64) 38 wc w.heap.size (fun _ => True) v967 t966) ∧ Aside0 (Kd.R k90 90 wc w.heap.size (fun _ => True) (.slice Ao14 t947.length co14) t947) ∧ Aside0 (Kd.R (Kd.int .i64) 3 wc w.heap.size (fun _ => True) (.slice Ao15 t950.length co15) t950) ∧ Aside0 (wc.heap[gb945]? = some (.cells #[.int .i64 t946, (.slice Ao14 t947.length co14), (.slice Ao15 t950.length co15)] 58 (0, 0))) ∧ Aside0 (Below w.heap.size w wc))
  case first =>
   have H := HC9.out
   clear HC9
   replace H := Option.bind_eq_some_iff.mp H
   obtain ⟨t969, A250, H⟩ := H
   replace H : (if t969 = true then (if (t966.length : Int) = t946 then (if (t960.length : Int) = t946 then (if 0 ≤ (wrap64 (Int.tmod (IntKind.u64.wrap (a1)) (IntKind.u64.wrap (t946)))) then (if (wrap64 (Int.tmod (IntKind.u64.wrap (a1)) (IntKind.u64.wrap (t946)))) < (t960.length : Int) then (marchlandlaw06_FrontWays.j0 k (wrap64 (Int.tmod (IntKind.u64.wrap (a1)) (IntKind.u64.wrap (t946)))) (Int.tmod a2 18446744073709551615) t960 t966 (((rd_L7 t960 (wrap64 (Int.tmod (IntKind.u64.wrap (a1)) (IntKind.u64.wrap (t946))))).length : Int) != t946) t946 t947 t950) else (none)) else (none)) else (marchlandlaw06_FrontWays.j0 k (wrap64 (Int.tmod (IntKind.u64.wrap (a1)) (IntKind.u64.wrap (t946)))) (Int.tmod a2 18446744073709551615) t960 t966 true t946 t947 t950)) else (marchlandlaw06_FrontWays.j0 k (wrap64 (Int.tmod (IntKind.u64.wrap (a1)) (IntKind.u64.wrap (t946)))) (Int.tmod a2 18446744073709551615) t960 t966 true t946 t947 t950)) else (marchlandlaw06_FrontWays.j0 k (wrap64 (Int.tmod (IntKind.u64.wrap (a1)) (IntKind.u64.wrap (t946)))) (Int.tmod a2 18446744073709551615) t960 t966 true t946 t947 t950)) = some r := H
   have A25 := Aside0.mk A250
   clear A250
   by_cases c26 : t969 = true
   ·subst c26
    have H1 : (if (t966.length : Int) = t946 then (if (t960.length : Int) = t946 then (if 0 ≤ (wrap64 (Int.tmod (IntKind.u64.wrap (a1)) (IntKind.u64.wrap (t946)))) then (if (wrap64 (Int.tmod (IntKind.u64.wrap (a1)) (IntKind.u64.wrap (t946)))) < (t960.length : Int) then (marchlandlaw06_FrontWays.j0 k (wrap64 (Int.tmod (IntKind.u64.wrap (a1)) (IntKind.u64.wrap (t946)))) (Int.tmod a2 18446744073709551615) t960 t966 (((rd_L7 t960 (wrap64 (Int.tmod (IntKind.u64.wrap (a1)) (IntKind.u64.wrap (t946))))).length : Int) != t946) t946 t947 t950) else (none)) else (none)) else (marchlandlaw06_FrontWays.j0 k (wrap64 (Int.tmod (IntKind.u64.wrap (a1)) (IntKind.u64.wrap (t946)))) (Int.tmod a2 18446744073709551615) t960 t966 true t946 t947 t950)) else (marchlandlaw06_FrontWays.j0 k (wrap64 (Int.tmod (IntKind.u64.wrap (a1)) (IntKind.u64.wrap (t946)))) (Int.tmod a2 18446744073709551615) t960 t966 true t946 t947 t950)) = some r := by rw [if_pos rfl] at H; exact H
    clear H
    have H := H1
    clear H1
    by_cases c27 : (t966.length : Int) = t946
    ·rw [if_pos c27] at H
     have c27b0 : ((t966.length : Int) == t946) = true := beq_iff_eq.mpr c27
     have c27b1 : ((t966.length : Int) != t946) = false := bne_eq_false_iff_eq.mpr c27
     clear c27
     (first | rw [c27b0] | (simp only [i64_w, i32_w]; rw [c27b0]) | skip)
     by_cases c28 : (t960.length : Int) = t946
     ·rw [if_pos c28] at H
      have c28b0 : ((t960.length : Int) == t946) = true := beq_iff_eq.mpr c28
      have c28b1 : ((t960.length : Int) != t946) = false := bne_eq_false_iff_eq.mpr c28
      clear c28
      obtain ⟨ji29, hji29⟩ : ∃ j_ : Int, (wrap64 (Int.tmod (IntKind.u64.wrap (a1)) (IntKind.u64.wrap (t946)))) = j_ := ⟨_, rfl⟩
      replace H : (if 0 ≤ (ji29) then (if (ji29) < (t960.length : Int) then (marchlandlaw06_FrontWays.j0 k ji29 (Int.tmod a2 18446744073709551615) t960 t966 (((rd_L7 t960 (ji29)).length : Int) != t946) t946 t947 t950) else (none)) else (none)) = some r := by first | (rw [hji29] at H; exact H) | (simp only [hji29] at H ⊢; exact H)
      (try rw [hji29] at A25)
      have hji29w : (IntKind.i64.wrap (Int.tmod (IntKind.u64.wrap (a1)) (IntKind.u64.wrap (t946)))) = ji29 := (i64_w _).trans hji29
      by_cases c30 : 0 ≤ (ji29)
      ·rw [if_pos c30] at H
       have c30b0 : decide (0 ≤ (ji29)) = true := decide_eq_true c30
       clear c30
       by_cases c31 : (ji29) < (t960.length : Int)
       ·rw [if_pos c31] at H
        have c31b0 : decide ((ji29) < (t960.length : Int)) = true := decide_eq_true c31
        clear c31
        have H' := Aside0.mk H
        clear H
        try go_wp2
        have n0_ := Aside0.mk (Kd.R_drew HO949.out)
        have n1_ := Aside0.mk (Kd.R_drew HO952.out)
        have n2_ := Aside0.mk (Kd.R_drew HO956.out)
        have n3_ := Aside0.mk (Kd.R_drew HO959.out)
        have n4_ := Aside0.mk (Kd.S_drew HO962.out)
        have n5_ := Aside0.mk (Kd.R_drew HO965.out)
        have n6_ := Aside0.mk (Kd.R_drew HO968.out)
        have n7_ := Aside0.mk (blk_drew BK945.out)
        have n8_ := Aside0.mk (below_drew1 HB.out)
        clear HO949
        clear HO952
        clear HO956
        clear HO959
        clear HO962
        clear HO965
        clear HO968
        clear BK945
        clear HB
        have HO949 := n0_
        have HO952 := n1_
        have HO956 := n2_
        have HO959 := n3_
        have HO962 := n4_
        have HO965 := n5_
        have HO968 := n6_
        have BK945 := n7_
        have HB := n8_
        clear n0_ n1_ n2_ n3_ n4_ n5_ n6_ n7_ n8_
        have p970 : 0 ≤ ((ji29) : Int) := of_decide_eq_true (by assumption)
        have q970 : (ji29) < (t960.length : Int) := of_decide_eq_true (by assumption)
        obtain ⟨ad970, A970_0, c970_0, e970, hx970_0, hl970_0, hi970_0⟩ := at_L7 (Kd.S_reads' HO962.out).2.2 (ji29) p970 q970
        cases e970
        obtain ⟨ce970, hce970, hMe970, hcc970⟩ := Kd.S_get HO962.out [] (ji29) p970 (by first | exact q970 | exact of_decide_eq_true (by assumption) | (have e_ := (Kd.S_reads' HO962.out).1; omega))
        obtain ⟨ve970_0, rfl, ge970_0⟩ := hMe970
        have hv970_0 := hcc970 0 _ rfl
        rw [Nat.add_zero, show ((Kd.slice 38 (Kd.int .u64))).sz = 1 from rfl, Nat.mul_one] at hv970_0
        replace hv970_0 := Option.some.inj (hv970_0.symm.trans hx970_0)
        rw [hv970_0] at ge970_0
        have HL970_0 := Aside0.mk (show Kd.R (Kd.int .u64) 38 _ _ _ _ (rd_L7 t960 (ji29)) from ge970_0)
        clear hv970_0 ge970_0
        clear hcc970 hce970
        have HR970_0 := Aside0.mk hi970_0
        have HC970_0 := Aside0.mk hl970_0
        clear hi970_0 hl970_0
        replace p970 := eq_true p970
        replace q970 := eq_true q970
        refine start_ (n := 26) (S := fun w' => w'.cell? ⟨gb945, 0, none⟩ = some (.int .i64 t946) ∧ w'.cell? ⟨gb945, 1, none⟩ = some (.slice Ao14 t947.length co14) ∧ w'.cell? ⟨gb945, 2, none⟩ = some (.slice Ao15 t950.length co15) ∧ w'.cell? (ad970.add ((ji29)).toNat) = some (.slice A970_0 (rd_L7 t960 (ji29)).length c970_0)) (ds := []) (mk_ 0 26) (by kernel_rfl) rfl rfl ⟨(blk_cell BK945.out 0).trans rfl, (blk_cell BK945.out 1).trans rfl, (blk_cell BK945.out 2).trans rfl, hx970_0⟩ (fun hHeld => ?_); refine with_tabW marchlandlaw06_FrontWays.tab6 marchlandlaw06_FrontWays.bits6 (fun HT_ HW_ => ?_)
        generalize w24.drew = w32 at HO949 HO952 HO956 HO959 HO962 HO965 HO968 BK945 HB HL970_0 HR970_0 hx970_0 hHeld ⊢
        refine one_ (i := 0) (N := some 32) (mk_ 1 25) rfl rfl (one_of HT_.out (by kernel_rfl)) (by decide) (fun K hK => ?_)
        refine goes_ Try.func41 (by kernel_rfl) rfl #[] (by rfl) rfl rfl (by (try simp only [List.map_toArray, List.map_cons, List.map_nil]); first | done | rfl | (simp only [List.length_drop, List.length_take]; rfl)) ?_
        with_reducible refine (marchlandlaw06_told.calls  true _ A25.out).mono ?_
        rintro e w33 ⟨rfl, hb⟩
        have HS3_ := (hb.cell (World.block_lt_of_cell? _ _ (hHeld.2.2.2))).trans (hHeld.2.2.2)
        refine ⟨_, rfl, ?_⟩
        have n0_ := Aside0.mk (Kd.R_below (rn HO949) hb)
        have n1_ := Aside0.mk (Kd.R_below (rn HO952) hb)
        have n2_ := Aside0.mk (Kd.R_below (rn HO956) hb)
        have n3_ := Aside0.mk (Kd.R_below (rn HO959) hb)
        have n4_ := Aside0.mk (Kd.S_below (sn HO962) hb)
        have n5_ := Aside0.mk (Kd.R_below (rn HO965) hb)
        have n6_ := Aside0.mk (Kd.R_below (rn HO968) hb)
        have n7_ := Aside0.mk (bkb BK945 hb)
        have n8_ := Aside0.mk (below_step (bn1 HB GE945) hb)
        clear HO949
        clear HO952
        clear HO956
        clear HO959
        clear HO962
        clear HO965
        clear HO968
        clear BK945
        clear HB
        have HO949 := n0_
        have HO952 := n1_
        have HO956 := n2_
        have HO959 := n3_
        have HO962 := n4_
        have HO965 := n5_
        have HO968 := n6_
        have BK945 := n7_
        have HB := n8_
        clear n0_ n1_ n2_ n3_ n4_ n5_ n6_ n7_ n8_
        (try clear hb)
        (try clear hb2)
        (try clear hk)
        (try clear hi)
        obtain ⟨Ao34, co34, eo34⟩ := Kd.R_slice HO968.out
        (first | subst eo34 | (injection eo34 with f1_ f2_ f3_; have f4_ := f1_.symm; have f5_ := f3_.symm; clear f1_ f2_ f3_; subst f4_; subst f5_))
        refine hK.out _ _ ⟨(blk_cell BK945.out 0).trans rfl, (blk_cell BK945.out 1).trans rfl, (blk_cell BK945.out 2).trans rfl, HS3_⟩ (fun hHeld => ?_)
        clear hK K
        refine norm_ (a' := ?_) ?_ ?_
        rotate_left
        ·show Act.put _ (some 32) _ = _
         simp only [Act.put, List.setIfInBounds_toArray, List.set_cons_zero, List.set_cons_succ, i64_w, i32_w]
         rfl
        refine pv_ 1 33 (mk_ 2 24) HT_ ?_
        refine pv_ 2 34 (mk_ 3 23) HT_ ?_
        refine pv_ 3 35 (mk_ 4 22) HT_ ?_
        refine pv_ 4 36 (mk_ 5 21) HT_ ?_
        refine pv_ 5 37 (mk_ 6 20) HT_ ?_
        refine tv_ 6 38 (mk_ 7 19) HT_ HW_ hHeld (hy := by rintro w' ⟨s0, s1, s2, s3⟩; go_simp; with_reducible rfl) (h := ?_)
        refine pv_ 7 39 (mk_ 8 18) HT_ ?_
        refine pv_ 8 40 (mk_ 9 17) HT_ ?_
        refine pv_ 9 41 (mk_ 10 16) HT_ ?_
        refine pv_ 10 42 (mk_ 11 15) HT_ ?_
        refine pv_ 11 43 (mk_ 12 14) HT_ ?_
        refine pv_ 12 44 (mk_ 13 13) HT_ ?_
        refine tv_ 13 45 (mk_ 14 12) HT_ HW_ hHeld (hy := by rintro w' ⟨s0, s1, s2, s3⟩; go_simp; with_reducible rfl) (h := ?_)
        refine pv_ 14 46 (mk_ 15 11) HT_ ?_
        refine pv_ 15 47 (mk_ 16 10) HT_ ?_
        refine pv_ 16 48 (mk_ 17 9) HT_ ?_
        refine pv_ 17 49 (mk_ 18 8) HT_ ?_
        refine pv_ 18 50 (mk_ 19 7) HT_ ?_
        refine pv_ 19 51 (mk_ 20 6) HT_ ?_
        refine pv_ 22 54 #[true, true, true, true, true, true, true, true, true, true, true, true, true, true, true, true, true, true, true, true, false, false, true, false, false, false] HT_ ?_
        refine tv_ 20 52 #[true, true, true, true, true, true, true, true, true, true, true, true, true, true, true, true, true, true, true, true, true, false, true, false, false, false] HT_ HW_ hHeld (hy := by rintro w' ⟨s0, s1, s2, s3⟩; go_simp; with_reducible rfl) (h := ?_)
        refine pv_ 21 53 (mk_ 23 3) HT_ ?_
        refine tv_ 23 55 (mk_ 24 2) HT_ HW_ hHeld (hy := by rintro w' ⟨s0, s1, s2, s3⟩; go_simp; with_reducible rfl) (h := ?_)
        refine pv_ 24 56 (mk_ 25 1) HT_ ?_
        refine pv_ 25 57 (mk_ 26 0) HT_ ?_
        refine done_ (done_of HT_.out (by kernel_rfl)) ?_
        try go_wp2
        subst hji29
        go_meet
        case rel => exact ⟨_, ((((rd_L7 t960 (((wrap64 (Int.tmod (IntKind.u64.wrap (a1)) (IntKind.u64.wrap (t946))))))).length : Int) != t946)), (by first | rfl | (simp; done) | (simp only [← hji29] <;> (first | rfl | simp)) | (simp [*]; done)), H', ⟨by first | omega | exact Nat.le_refl _⟩, ⟨by (with_reducible repeat (first | apply Kd.S_alloc | apply Kd.S_drewN | apply Kd.S_drew)); exact Kd.S_mono HO962.out (fun _ hk => hk.2)⟩, ⟨rn HO968⟩, ⟨rn HO949⟩, ⟨by (with_reducible repeat (first | apply Kd.R_alloc | apply Kd.R_drewN | apply Kd.R_drew)); exact Kd.R_mono HO952.out (fun _ hk => trivial)⟩, ⟨bk BK945⟩, ⟨bn1 HB GE945⟩⟩
       ·rw [if_neg c31] at H
        exact absurd H (by simp)
      ·rw [if_neg c30] at H
       exact absurd H (by simp)
     ·rw [if_neg c28] at H
      have c28b0 : ((t960.length : Int) == t946) = false := beq_eq_false_iff_ne.mpr c28
      have c28b1 : ((t960.length : Int) != t946) = true := bne_iff_ne.mpr c28
      have H' := Aside0.mk H
      clear H
      try go_wp2
      have n0_ := Aside0.mk (Kd.R_drew HO949.out)
      have n1_ := Aside0.mk (Kd.R_drew HO952.out)
      have n2_ := Aside0.mk (Kd.R_drew HO956.out)
      have n3_ := Aside0.mk (Kd.R_drew HO959.out)
      have n4_ := Aside0.mk (Kd.S_drew HO962.out)
      have n5_ := Aside0.mk (Kd.R_drew HO965.out)
      have n6_ := Aside0.mk (Kd.R_drew HO968.out)
      have n7_ := Aside0.mk (blk_drew BK945.out)
      have n8_ := Aside0.mk (below_drew1 HB.out)
      clear HO949
      clear HO952
      clear HO956
      clear HO959
      clear HO962
      clear HO965
      clear HO968
      clear BK945
      clear HB
      have HO949 := n0_
      have HO952 := n1_
      have HO956 := n2_
      have HO959 := n3_
      have HO962 := n4_
      have HO965 := n5_
      have HO968 := n6_
      have BK945 := n7_
      have HB := n8_
      clear n0_ n1_ n2_ n3_ n4_ n5_ n6_ n7_ n8_
      refine start_ (n := 26) (S := fun w' => w'.cell? ⟨gb945, 0, none⟩ = some (.int .i64 t946) ∧ w'.cell? ⟨gb945, 1, none⟩ = some (.slice Ao14 t947.length co14) ∧ w'.cell? ⟨gb945, 2, none⟩ = some (.slice Ao15 t950.length co15)) (ds := []) (mk_ 0 26) (by kernel_rfl) rfl rfl ⟨(blk_cell BK945.out 0).trans rfl, (blk_cell BK945.out 1).trans rfl, (blk_cell BK945.out 2).trans rfl⟩ (fun hHeld => ?_); refine with_tabW marchlandlaw06_FrontWays.tab6 marchlandlaw06_FrontWays.bits6 (fun HT_ HW_ => ?_)
      generalize w24.drew = w35 at HO949 HO952 HO956 HO959 HO962 HO965 HO968 BK945 HB hHeld ⊢
      refine one_ (i := 0) (N := some 32) (mk_ 1 25) rfl rfl (one_of HT_.out (by kernel_rfl)) (by decide) (fun K hK => ?_)
      refine goes_ Try.func41 (by kernel_rfl) rfl #[] (by rfl) rfl rfl (by (try simp only [List.map_toArray, List.map_cons, List.map_nil]); first | done | rfl | (simp only [List.length_drop, List.length_take]; rfl)) ?_
      with_reducible refine (marchlandlaw06_told.calls  true _ A25.out).mono ?_
      rintro e w36 ⟨rfl, hb⟩
      refine ⟨_, rfl, ?_⟩
      have n0_ := Aside0.mk (Kd.R_below (rn HO949) hb)
      have n1_ := Aside0.mk (Kd.R_below (rn HO952) hb)
      have n2_ := Aside0.mk (Kd.R_below (rn HO956) hb)
      have n3_ := Aside0.mk (Kd.R_below (rn HO959) hb)
      have n4_ := Aside0.mk (Kd.S_below (sn HO962) hb)
      have n5_ := Aside0.mk (Kd.R_below (rn HO965) hb)
      have n6_ := Aside0.mk (Kd.R_below (rn HO968) hb)
      have n7_ := Aside0.mk (bkb BK945 hb)
      have n8_ := Aside0.mk (below_step (bn1 HB GE945) hb)
      clear HO949
      clear HO952
      clear HO956
      clear HO959
      clear HO962
      clear HO965
      clear HO968
      clear BK945
      clear HB
      have HO949 := n0_
      have HO952 := n1_
      have HO956 := n2_
      have HO959 := n3_
      have HO962 := n4_
      have HO965 := n5_
      have HO968 := n6_
      have BK945 := n7_
      have HB := n8_
      clear n0_ n1_ n2_ n3_ n4_ n5_ n6_ n7_ n8_
      (try clear hb)
      (try clear hb2)
      (try clear hk)
      (try clear hi)
      obtain ⟨Ao37, co37, eo37⟩ := Kd.R_slice HO968.out
      (first | subst eo37 | (injection eo37 with f1_ f2_ f3_; have f4_ := f1_.symm; have f5_ := f3_.symm; clear f1_ f2_ f3_; subst f4_; subst f5_))
      refine hK.out _ _ ⟨(blk_cell BK945.out 0).trans rfl, (blk_cell BK945.out 1).trans rfl, (blk_cell BK945.out 2).trans rfl⟩ (fun hHeld => ?_)
      clear hK K
      refine norm_ (a' := ?_) ?_ ?_
      rotate_left
      ·show Act.put _ (some 32) _ = _
       simp only [Act.put, List.setIfInBounds_toArray, List.set_cons_zero, List.set_cons_succ, i64_w, i32_w]
       rfl
      refine pv_ 1 33 (mk_ 2 24) HT_ ?_
      refine pv_ 2 34 (mk_ 3 23) HT_ ?_
      refine pv_ 3 35 (mk_ 4 22) HT_ ?_
      refine pv_ 4 36 (mk_ 5 21) HT_ ?_
      refine pv_ 5 37 (mk_ 6 20) HT_ ?_
      refine tv_ 6 38 (mk_ 7 19) HT_ HW_ hHeld (hy := by rintro w' ⟨s0, s1, s2⟩; go_simp; with_reducible rfl) (h := ?_)
      refine pv_ 7 39 (mk_ 8 18) HT_ ?_
      refine pv_ 8 40 (mk_ 9 17) HT_ ?_
      refine pv_ 9 41 (mk_ 10 16) HT_ ?_
      refine pv_ 10 42 (mk_ 11 15) HT_ ?_
      refine pv_ 11 43 (mk_ 12 14) HT_ ?_
      refine pv_ 12 44 (mk_ 13 13) HT_ ?_
      refine tv_ 13 45 (mk_ 14 12) HT_ HW_ hHeld (hy := by rintro w' ⟨s0, s1, s2⟩; go_simp; with_reducible rfl) (h := ?_)
      refine pv_ 14 46 (mk_ 15 11) HT_ ?_
      refine pv_ 15 47 (mk_ 16 10) HT_ ?_
      refine pv_ 16 48 (mk_ 17 9) HT_ ?_
      refine pu_ 17 49 (mk_ 18 8) HT_ ?_
      refine pu_ 18 50 (mk_ 19 7) HT_ ?_
      refine pu_ 19 51 (mk_ 20 6) HT_ ?_
      refine pu_ 20 52 (mk_ 21 5) HT_ ?_
      refine pu_ 21 53 (mk_ 22 4) HT_ ?_
      refine pu_ 22 54 (mk_ 23 3) HT_ ?_
      refine pu_ 23 55 (mk_ 24 2) HT_ ?_
      refine pu_ 24 56 (mk_ 25 1) HT_ ?_
      refine pv_ 25 57 (mk_ 26 0) HT_ ?_
      refine done_ (done_of HT_.out (by kernel_rfl)) ?_
      try go_wp2
      go_meet
      case rel => exact ⟨_, (true), (by first | rfl | (simp; done) | (simp [*]; done)), H', ⟨by first | omega | exact Nat.le_refl _⟩, ⟨by (with_reducible repeat (first | apply Kd.S_alloc | apply Kd.S_drewN | apply Kd.S_drew)); exact Kd.S_mono HO962.out (fun _ hk => hk.2)⟩, ⟨rn HO968⟩, ⟨rn HO949⟩, ⟨by (with_reducible repeat (first | apply Kd.R_alloc | apply Kd.R_drewN | apply Kd.R_drew)); exact Kd.R_mono HO952.out (fun _ hk => trivial)⟩, ⟨bk BK945⟩, ⟨bn1 HB GE945⟩⟩
    ·rw [if_neg c27] at H
     have c27b0 : ((t966.length : Int) == t946) = false := beq_eq_false_iff_ne.mpr c27
     have c27b1 : ((t966.length : Int) != t946) = true := bne_iff_ne.mpr c27
     (first | rw [c27b0] | (simp only [i64_w, i32_w]; rw [c27b0]) | skip)
     have H' := Aside0.mk H
     clear H
     try go_wp2
     have n0_ := Aside0.mk (Kd.R_drew HO949.out)
     have n1_ := Aside0.mk (Kd.R_drew HO952.out)
     have n2_ := Aside0.mk (Kd.R_drew HO956.out)
     have n3_ := Aside0.mk (Kd.R_drew HO959.out)
     have n4_ := Aside0.mk (Kd.S_drew HO962.out)
     have n5_ := Aside0.mk (Kd.R_drew HO965.out)
     have n6_ := Aside0.mk (Kd.R_drew HO968.out)
     have n7_ := Aside0.mk (blk_drew BK945.out)
     have n8_ := Aside0.mk (below_drew1 HB.out)
     clear HO949
     clear HO952
     clear HO956
     clear HO959
     clear HO962
     clear HO965
     clear HO968
     clear BK945
     clear HB
     have HO949 := n0_
     have HO952 := n1_
     have HO956 := n2_
     have HO959 := n3_
     have HO962 := n4_
     have HO965 := n5_
     have HO968 := n6_
     have BK945 := n7_
     have HB := n8_
     clear n0_ n1_ n2_ n3_ n4_ n5_ n6_ n7_ n8_
     refine start_ (n := 26) (S := fun w' => w'.cell? ⟨gb945, 0, none⟩ = some (.int .i64 t946) ∧ w'.cell? ⟨gb945, 1, none⟩ = some (.slice Ao14 t947.length co14) ∧ w'.cell? ⟨gb945, 2, none⟩ = some (.slice Ao15 t950.length co15)) (ds := []) (mk_ 0 26) (by kernel_rfl) rfl rfl ⟨(blk_cell BK945.out 0).trans rfl, (blk_cell BK945.out 1).trans rfl, (blk_cell BK945.out 2).trans rfl⟩ (fun hHeld => ?_); refine with_tabW marchlandlaw06_FrontWays.tab6 marchlandlaw06_FrontWays.bits6 (fun HT_ HW_ => ?_)
     generalize w24.drew = w38 at HO949 HO952 HO956 HO959 HO962 HO965 HO968 BK945 HB hHeld ⊢
     refine one_ (i := 0) (N := some 32) (mk_ 1 25) rfl rfl (one_of HT_.out (by kernel_rfl)) (by decide) (fun K hK => ?_)
     refine goes_ Try.func41 (by kernel_rfl) rfl #[] (by rfl) rfl rfl (by (try simp only [List.map_toArray, List.map_cons, List.map_nil]); first | done | rfl | (simp only [List.length_drop, List.length_take]; rfl)) ?_
     with_reducible refine (marchlandlaw06_told.calls  true _ A25.out).mono ?_
     rintro e w39 ⟨rfl, hb⟩
     refine ⟨_, rfl, ?_⟩
     have n0_ := Aside0.mk (Kd.R_below (rn HO949) hb)
     have n1_ := Aside0.mk (Kd.R_below (rn HO952) hb)
     have n2_ := Aside0.mk (Kd.R_below (rn HO956) hb)
     have n3_ := Aside0.mk (Kd.R_below (rn HO959) hb)
     have n4_ := Aside0.mk (Kd.S_below (sn HO962) hb)
     have n5_ := Aside0.mk (Kd.R_below (rn HO965) hb)
     have n6_ := Aside0.mk (Kd.R_below (rn HO968) hb)
     have n7_ := Aside0.mk (bkb BK945 hb)
     have n8_ := Aside0.mk (below_step (bn1 HB GE945) hb)
     clear HO949
     clear HO952
     clear HO956
     clear HO959
     clear HO962
     clear HO965
     clear HO968
     clear BK945
     clear HB
     have HO949 := n0_
     have HO952 := n1_
     have HO956 := n2_
     have HO959 := n3_
     have HO962 := n4_
     have HO965 := n5_
     have HO968 := n6_
     have BK945 := n7_
     have HB := n8_
     clear n0_ n1_ n2_ n3_ n4_ n5_ n6_ n7_ n8_
     (try clear hb)
     (try clear hb2)
     (try clear hk)
     (try clear hi)
     obtain ⟨Ao40, co40, eo40⟩ := Kd.R_slice HO968.out
     (first | subst eo40 | (injection eo40 with f1_ f2_ f3_; have f4_ := f1_.symm; have f5_ := f3_.symm; clear f1_ f2_ f3_; subst f4_; subst f5_))
     refine hK.out _ _ ⟨(blk_cell BK945.out 0).trans rfl, (blk_cell BK945.out 1).trans rfl, (blk_cell BK945.out 2).trans rfl⟩ (fun hHeld => ?_)
     clear hK K
     refine norm_ (a' := ?_) ?_ ?_
     rotate_left
     ·show Act.put _ (some 32) _ = _
      simp only [Act.put, List.setIfInBounds_toArray, List.set_cons_zero, List.set_cons_succ, i64_w, i32_w]
      rfl
     refine pv_ 1 33 (mk_ 2 24) HT_ ?_
     refine pv_ 2 34 (mk_ 3 23) HT_ ?_
     refine pv_ 3 35 (mk_ 4 22) HT_ ?_
     refine pv_ 4 36 (mk_ 5 21) HT_ ?_
     refine pv_ 5 37 (mk_ 6 20) HT_ ?_
     refine tv_ 6 38 (mk_ 7 19) HT_ HW_ hHeld (hy := by rintro w' ⟨s0, s1, s2⟩; go_simp; with_reducible rfl) (h := ?_)
     refine pv_ 7 39 (mk_ 8 18) HT_ ?_
     refine pv_ 8 40 (mk_ 9 17) HT_ ?_
     refine pv_ 9 41 (mk_ 10 16) HT_ ?_
     refine pu_ 10 42 (mk_ 11 15) HT_ ?_
     refine pu_ 11 43 (mk_ 12 14) HT_ ?_
     refine pu_ 12 44 (mk_ 13 13) HT_ ?_
     refine pu_ 13 45 (mk_ 14 12) HT_ ?_
     refine pu_ 14 46 (mk_ 15 11) HT_ ?_
     refine pv_ 15 47 (mk_ 16 10) HT_ ?_
     refine pv_ 16 48 (mk_ 17 9) HT_ ?_
     refine pu_ 17 49 (mk_ 18 8) HT_ ?_
     refine pu_ 18 50 (mk_ 19 7) HT_ ?_
     refine pu_ 19 51 (mk_ 20 6) HT_ ?_
     refine pu_ 20 52 (mk_ 21 5) HT_ ?_
     refine pu_ 21 53 (mk_ 22 4) HT_ ?_
     refine pu_ 22 54 (mk_ 23 3) HT_ ?_
     refine pu_ 23 55 (mk_ 24 2) HT_ ?_
     refine pu_ 24 56 (mk_ 25 1) HT_ ?_
     refine pv_ 25 57 (mk_ 26 0) HT_ ?_
     refine done_ (done_of HT_.out (by kernel_rfl)) ?_
     try go_wp2
     go_meet
     case rel => exact ⟨_, (true), (by first | rfl | (simp; done) | (simp [*]; done)), H', ⟨by first | omega | exact Nat.le_refl _⟩, ⟨by (with_reducible repeat (first | apply Kd.S_alloc | apply Kd.S_drewN | apply Kd.S_drew)); exact Kd.S_mono HO962.out (fun _ hk => hk.2)⟩, ⟨rn HO968⟩, ⟨rn HO949⟩, ⟨by (with_reducible repeat (first | apply Kd.R_alloc | apply Kd.R_drewN | apply Kd.R_drew)); exact Kd.R_mono HO952.out (fun _ hk => trivial)⟩, ⟨bk BK945⟩, ⟨bn1 HB GE945⟩⟩
   ·replace c26 := Bool.eq_false_iff.mpr c26
    subst c26
    have H1 : (marchlandlaw06_FrontWays.j0 k (wrap64 (Int.tmod (IntKind.u64.wrap (a1)) (IntKind.u64.wrap (t946)))) (Int.tmod a2 18446744073709551615) t960 t966 true t946 t947 t950) = some r := by rw [if_neg (show ¬ (false = true) by decide)] at H; exact H
    clear H
    have H := H1
    clear H1
    have H' := Aside0.mk H
    clear H
    try go_wp2
    have n0_ := Aside0.mk (Kd.R_drew HO949.out)
    have n1_ := Aside0.mk (Kd.R_drew HO952.out)
    have n2_ := Aside0.mk (Kd.R_drew HO956.out)
    have n3_ := Aside0.mk (Kd.R_drew HO959.out)
    have n4_ := Aside0.mk (Kd.S_drew HO962.out)
    have n5_ := Aside0.mk (Kd.R_drew HO965.out)
    have n6_ := Aside0.mk (Kd.R_drew HO968.out)
    have n7_ := Aside0.mk (blk_drew BK945.out)
    have n8_ := Aside0.mk (below_drew1 HB.out)
    clear HO949
    clear HO952
    clear HO956
    clear HO959
    clear HO962
    clear HO965
    clear HO968
    clear BK945
    clear HB
    have HO949 := n0_
    have HO952 := n1_
    have HO956 := n2_
    have HO959 := n3_
    have HO962 := n4_
    have HO965 := n5_
    have HO968 := n6_
    have BK945 := n7_
    have HB := n8_
    clear n0_ n1_ n2_ n3_ n4_ n5_ n6_ n7_ n8_
    refine start_ (n := 26) (S := fun w' => True) (ds := []) (mk_ 0 26) (by kernel_rfl) rfl rfl trivial (fun hHeld => ?_); refine with_tabW marchlandlaw06_FrontWays.tab6 marchlandlaw06_FrontWays.bits6 (fun HT_ HW_ => ?_)
    generalize w24.drew = w41 at HO949 HO952 HO956 HO959 HO962 HO965 HO968 BK945 HB hHeld ⊢
    refine one_ (i := 0) (N := some 32) (mk_ 1 25) rfl rfl (one_of HT_.out (by kernel_rfl)) (by decide) (fun K hK => ?_)
    refine goes_ Try.func41 (by kernel_rfl) rfl #[] (by rfl) rfl rfl (by (try simp only [List.map_toArray, List.map_cons, List.map_nil]); first | done | rfl | (simp only [List.length_drop, List.length_take]; rfl)) ?_
    with_reducible refine (marchlandlaw06_told.calls  false _ A25.out).mono ?_
    rintro e w42 ⟨rfl, hb⟩
    refine ⟨_, rfl, ?_⟩
    have n0_ := Aside0.mk (Kd.R_below (rn HO949) hb)
    have n1_ := Aside0.mk (Kd.R_below (rn HO952) hb)
    have n2_ := Aside0.mk (Kd.R_below (rn HO956) hb)
    have n3_ := Aside0.mk (Kd.R_below (rn HO959) hb)
    have n4_ := Aside0.mk (Kd.S_below (sn HO962) hb)
    have n5_ := Aside0.mk (Kd.R_below (rn HO965) hb)
    have n6_ := Aside0.mk (Kd.R_below (rn HO968) hb)
    have n7_ := Aside0.mk (bkb BK945 hb)
    have n8_ := Aside0.mk (below_step (bn1 HB GE945) hb)
    clear HO949
    clear HO952
    clear HO956
    clear HO959
    clear HO962
    clear HO965
    clear HO968
    clear BK945
    clear HB
    have HO949 := n0_
    have HO952 := n1_
    have HO956 := n2_
    have HO959 := n3_
    have HO962 := n4_
    have HO965 := n5_
    have HO968 := n6_
    have BK945 := n7_
    have HB := n8_
    clear n0_ n1_ n2_ n3_ n4_ n5_ n6_ n7_ n8_
    (try clear hb)
    (try clear hb2)
    (try clear hk)
    (try clear hi)
    refine hK.out _ _ trivial (fun hHeld => ?_)
    clear hK K
    refine norm_ (a' := ?_) ?_ ?_
    rotate_left
    ·show Act.put _ (some 32) _ = _
     simp only [Act.put, List.setIfInBounds_toArray, List.set_cons_zero, List.set_cons_succ, i64_w, i32_w]
     rfl
    refine pv_ 1 33 (mk_ 2 24) HT_ ?_
    refine pv_ 2 34 (mk_ 3 23) HT_ ?_
    refine pu_ 3 35 (mk_ 4 22) HT_ ?_
    refine pu_ 4 36 (mk_ 5 21) HT_ ?_
    refine pu_ 5 37 (mk_ 6 20) HT_ ?_
    refine pu_ 6 38 (mk_ 7 19) HT_ ?_
    refine pu_ 7 39 (mk_ 8 18) HT_ ?_
    refine pv_ 8 40 (mk_ 9 17) HT_ ?_
    refine pv_ 9 41 (mk_ 10 16) HT_ ?_
    refine pu_ 10 42 (mk_ 11 15) HT_ ?_
    refine pu_ 11 43 (mk_ 12 14) HT_ ?_
    refine pu_ 12 44 (mk_ 13 13) HT_ ?_
    refine pu_ 13 45 (mk_ 14 12) HT_ ?_
    refine pu_ 14 46 (mk_ 15 11) HT_ ?_
    refine pv_ 15 47 (mk_ 16 10) HT_ ?_
    refine pv_ 16 48 (mk_ 17 9) HT_ ?_
    refine pu_ 17 49 (mk_ 18 8) HT_ ?_
    refine pu_ 18 50 (mk_ 19 7) HT_ ?_
    refine pu_ 19 51 (mk_ 20 6) HT_ ?_
    refine pu_ 20 52 (mk_ 21 5) HT_ ?_
    refine pu_ 21 53 (mk_ 22 4) HT_ ?_
    refine pu_ 22 54 (mk_ 23 3) HT_ ?_
    refine pu_ 23 55 (mk_ 24 2) HT_ ?_
    refine pu_ 24 56 (mk_ 25 1) HT_ ?_
    refine pv_ 25 57 (mk_ 26 0) HT_ ?_
    refine done_ (done_of HT_.out (by kernel_rfl)) ?_
    try go_wp2
    go_meet
    case rel => exact ⟨_, (true), (by first | rfl | (simp; done) | (simp [*]; done)), H', ⟨by first | omega | exact Nat.le_refl _⟩, ⟨by (with_reducible repeat (first | apply Kd.S_alloc | apply Kd.S_drewN | apply Kd.S_drew)); exact Kd.S_mono HO962.out (fun _ hk => hk.2)⟩, ⟨rn HO968⟩, ⟨rn HO949⟩, ⟨by (with_reducible repeat (first | apply Kd.R_alloc | apply Kd.R_drewN | apply Kd.R_drew)); exact Kd.R_mono HO952.out (fun _ hk => trivial)⟩, ⟨bk BK945⟩, ⟨bn1 HB GE945⟩⟩
  case rest =>
   clear HC9
   (try clear c2); (try clear p2); (try clear c4); (try clear p6); (try clear c26); (try clear c27); (try clear c27b0); (try clear c27b1); (try clear c41)
   obtain ⟨kq, x57_8, rfl, HA, HJ8, HO_9, HO_10, HO_946001, HO_946002, BK945, HB⟩ := hcut
   cases kq with
   | zero => exact absurd HA.out (by simp [marchlandlaw06_FrontWays.j0])
   | succ kj8 =>
    have H := HA.out
    clear HA
    simp only [marchlandlaw06_FrontWays.j0] at H
    by_cases c43 : x57_8 = true
    ·subst c43
     have H1 : (some false) = some r := by rw [if_pos rfl] at H; exact H
     clear H
     have H := H1
     clear H1
     obtain rfl := Option.some.inj H
     go_wp2
     go_ret
     exact ⟨by first | rfl | (simp [errW_none, errW_some] <;> rfl) | (simp [*, errW_none, errW_some] <;> rfl), bn1 HB GE945⟩
    ·replace c43 := Bool.eq_false_iff.mpr c43
     subst c43
     have H1 : (marchlandlaw06_FrontWays.l0 kj8 (wrap64 (Int.tmod (IntKind.u64.wrap (a1)) (IntKind.u64.wrap (t946)))) (Int.tmod a2 18446744073709551615) t960 t966 0 t946 t947 t950) = some r := by rw [if_neg (show ¬ (false = true) by decide)] at H; exact H
     clear H
     have H := H1
     clear H1
     have H' := Aside0.mk H
     clear H
     go_wp2
     go_loopg [11] kj8 (fun kq v11 w' => ∃ (x11_2 : Int), v11 = .int .i64 x11_2 ∧ Aside0 (marchlandlaw06_FrontWays.l0 kq (wrap64 (Int.tmod (IntKind.u64.wrap (a1)) (IntKind.u64.wrap (t946)))) (Int.tmod a2 18446744073709551615) t960 t966 x11_2 t946 t947 t950 = some r) ∧ Aside0 (kq ≤ kj8) ∧ Aside0 (Kd.S (Kd.slice 38 (Kd.int .u64)) 67 w' w.heap.size (fun k_ => some k_ ≠ (v967 : Value).ownBlock) (.slice Ao22 t960.length co22) t960) ∧ Aside0 (Kd.R (Kd.int .u64) 38 w' w.heap.size (fun _ => True) v967 t966) ∧ Aside0 (Kd.R k90 90 w' w.heap.size (fun _ => True) (.slice Ao14 t947.length co14) t947) ∧ Aside0 (Kd.R (Kd.int .i64) 3 w' w.heap.size (fun _ => True) (.slice Ao15 t950.length co15) t950) ∧ Aside0 (w'.heap[gb945]? = some (.cells #[.int .i64 t946, (.slice Ao14 t947.length co14), (.slice Ao15 t950.length co15)] 58 (0, 0))) ∧ Aside0 (Below w.heap.size w w'))
     case atStart => exact ⟨(0), (by first | rfl | (simp; done) | (simp [*]; done)), H', ⟨Nat.le_refl _⟩, ⟨sn HO_9⟩, ⟨rn HO_10⟩, ⟨rn HO_946001⟩, ⟨rn HO_946002⟩, ⟨bk BK945⟩, ⟨bn1 HB GE945⟩⟩
     case round =>
      clear H'
      (try clear c2); (try clear p2); (try clear c4); (try clear p6); (try clear c26); (try clear c27); (try clear c27b0); (try clear c27b1); (try clear c41); (try clear c43); (try clear p2); (try clear p6)
      obtain ⟨x11_2, rfl, HA, HK2, HO_9, HO_10, HO_946001, HO_946002, BK945, HB⟩ := hrel
      cases gk with
      | zero => exact absurd HA.out (by simp [marchlandlaw06_FrontWays.l0])
      | succ k2 =>
       have H := HA.out
       clear HA
       simp only [marchlandlaw06_FrontWays.l0] at H
       by_cases c44 : x11_2 < t946
       ·rw [if_pos c44] at H
        have c44b0 : decide (x11_2 < t946) = true := decide_eq_true c44
        clear c44
        by_cases c45 : 0 ≤ x11_2
        ·rw [if_pos c45] at H
         have c45b0 : decide (0 ≤ x11_2) = true := decide_eq_true c45
         clear c45
         by_cases c46 : x11_2 < (t966.length : Int)
         ·rw [if_pos c46] at H
          have c46b0 : decide (x11_2 < (t966.length : Int)) = true := decide_eq_true c46
          clear c46
          obtain ⟨ji47, hji47⟩ : ∃ j_ : Int, (wrap64 (Int.tmod (IntKind.u64.wrap (a1)) (IntKind.u64.wrap (t946)))) = j_ := ⟨_, rfl⟩
          replace H : (if 0 ≤ (ji47) then (if (ji47) < (t960.length : Int) then (if x11_2 < ((rd_L7 t960 (ji47)).length : Int) then ((marchlandref01_Plus.f (Int.tmod a2 18446744073709551615) (rd (rd_L7 t960 (ji47)) x11_2)).bind fun t974 => (if (rd t966 x11_2) = t974 then (marchlandlaw06_FrontWays.l0 k2 (ji47) (Int.tmod a2 18446744073709551615) t960 t966 (wrap64 (x11_2 + 1)) t946 t947 t950) else (some false))) else (none)) else (none)) else (none)) = some r := by first | (rw [hji47] at H; exact H) | (simp only [hji47] at H ⊢; exact H)
          have hji47w : (IntKind.i64.wrap (Int.tmod (IntKind.u64.wrap (a1)) (IntKind.u64.wrap (t946)))) = ji47 := (i64_w _).trans hji47
          by_cases c48 : 0 ≤ (ji47)
          ·rw [if_pos c48] at H
           have c48b0 : decide (0 ≤ (ji47)) = true := decide_eq_true c48
           clear c48
           by_cases c49 : (ji47) < (t960.length : Int)
           ·rw [if_pos c49] at H
            have c49b0 : decide ((ji47) < (t960.length : Int)) = true := decide_eq_true c49
            clear c49
            by_cases c50 : x11_2 < ((rd_L7 t960 (ji47)).length : Int)
            ·rw [if_pos c50] at H
             have c50b0 : decide (x11_2 < ((rd_L7 t960 (ji47)).length : Int)) = true := decide_eq_true c50
             clear c50
             replace H := Option.bind_eq_some_iff.mp H
             obtain ⟨t974, A510, H⟩ := H
             replace H : (if (rd t966 x11_2) = t974 then (marchlandlaw06_FrontWays.l0 k2 (ji47) (Int.tmod a2 18446744073709551615) t960 t966 (wrap64 (x11_2 + 1)) t946 t947 t950) else (some false)) = some r := H
             have A51 := Aside0.mk A510
             clear A510
             by_cases c52 : (rd t966 x11_2) = t974
             ·rw [if_pos c52] at H
              have c52b0 : ((rd t966 x11_2) == t974) = true := beq_iff_eq.mpr c52
              have c52b1 : ((rd t966 x11_2) != t974) = false := bne_eq_false_iff_eq.mpr c52
              clear c52
              have H' := Aside0.mk H
              clear H
              have hcz53_0 : wr.cell? ⟨gb945, 0, none⟩ = some (.int .i64 t946) := (blk_cell BK945.out 0).trans rfl
              have hcz53_1 : wr.cell? ⟨gb945, 1, none⟩ = some (.slice Ao14 t947.length co14) := (blk_cell BK945.out 1).trans rfl
              have hcz53_2 : wr.cell? ⟨gb945, 2, none⟩ = some (.slice Ao15 t950.length co15) := (blk_cell BK945.out 2).trans rfl
              have hfz53_0 := blk_frozen BK945.out 0
              have hfz53_1 := blk_frozen BK945.out 1
              have hfz53_2 := blk_frozen BK945.out 2
              try go_wp2
              have n0_ := Aside0.mk (Kd.S_drew HO_9.out)
              have n1_ := Aside0.mk (Kd.R_drew HO_10.out)
              have n2_ := Aside0.mk (Kd.R_drew HO_946001.out)
              have n3_ := Aside0.mk (Kd.R_drew HO_946002.out)
              have n4_ := Aside0.mk (blk_drew BK945.out)
              have n5_ := Aside0.mk (below_drew1 HB.out)
              clear HO_9
              clear HO_10
              clear HO_946001
              clear HO_946002
              clear BK945
              clear HB
              have HO_9 := n0_
              have HO_10 := n1_
              have HO_946001 := n2_
              have HO_946002 := n3_
              have BK945 := n4_
              have HB := n5_
              clear n0_ n1_ n2_ n3_ n4_ n5_
              obtain ⟨Ao55, co55, eo55⟩ := Kd.R_slice HO_10.out
              (first | subst eo55 | (injection eo55 with f1_ f2_ f3_; have f4_ := f1_.symm; have f5_ := f3_.symm; clear f1_ f2_ f3_; subst f4_; subst f5_))
              have p971 : 0 ≤ (x11_2 : Int) := of_decide_eq_true (by assumption)
              have q971 : x11_2 < (t966.length : Int) := of_decide_eq_true (by assumption)
              obtain ⟨ad971, e971, hx971_0⟩ := Kd.at_int (Kd.R_reads' HO_10.out).2.2 x11_2 p971 q971
              cases e971
              replace p971 := eq_true p971
              replace q971 := eq_true q971
              have p972 : 0 ≤ ((ji47) : Int) := of_decide_eq_true (by assumption)
              have q972 : (ji47) < (t960.length : Int) := of_decide_eq_true (by assumption)
              obtain ⟨ad972, A972_0, c972_0, e972, hx972_0, hl972_0, hi972_0⟩ := at_L7 (Kd.S_reads' HO_9.out).2.2 (ji47) p972 q972
              cases e972
              obtain ⟨ce972, hce972, hMe972, hcc972⟩ := Kd.S_get HO_9.out [] (ji47) p972 (by first | exact q972 | exact of_decide_eq_true (by assumption) | (have e_ := (Kd.S_reads' HO_9.out).1; omega))
              obtain ⟨ve972_0, rfl, ge972_0⟩ := hMe972
              have hv972_0 := hcc972 0 _ rfl
              rw [Nat.add_zero, show ((Kd.slice 38 (Kd.int .u64))).sz = 1 from rfl, Nat.mul_one] at hv972_0
              replace hv972_0 := Option.some.inj (hv972_0.symm.trans hx972_0)
              rw [hv972_0] at ge972_0
              have HL972_0 := Aside0.mk (show Kd.R (Kd.int .u64) 38 _ _ _ _ (rd_L7 t960 (ji47)) from ge972_0)
              clear hv972_0 ge972_0
              clear hcc972 hce972
              have HR972_0 := Aside0.mk hi972_0
              have HC972_0 := Aside0.mk hl972_0
              clear hi972_0 hl972_0
              replace p972 := eq_true p972
              replace q972 := eq_true q972
              have p973 : 0 ≤ (x11_2 : Int) := of_decide_eq_true (by assumption)
              have q973 : x11_2 < ((rd_L7 t960 (ji47)).length : Int) := of_decide_eq_true (by assumption)
              obtain ⟨ad973, e973, hx973_0⟩ := Kd.at_int (by repeat (first | (with_reducible exact HR972_0.out) | (with_reducible refine Kd.C_alloc ?_ _) | (with_reducible refine Kd.C_drewN ?_ _) | (with_reducible refine Kd.C_drew ?_) | exact HR972_0.out)) x11_2 p973 q973
              cases e973
              replace p973 := eq_true p973
              replace q973 := eq_true q973
              refine start_ (n := 14) (S := fun w' => w'.cell? (ad971.add (x11_2).toNat) = some (.int .u64 (rd t966 x11_2)) ∧ w'.cell? (ad972.add ((ji47)).toNat) = some (.slice (some ad973) (rd_L7 t960 (ji47)).length c972_0) ∧ w'.cell? (ad973.add (x11_2).toNat) = some (.int .u64 (rd (rd_L7 t960 (ji47)) x11_2))) (ds := []) (mk_ 0 14) (by kernel_rfl) rfl rfl ⟨hx971_0, hx972_0, hx973_0⟩ (fun hHeld => ?_); refine with_tabW marchlandlaw06_FrontWays.tab11 marchlandlaw06_FrontWays.bits11 (fun HT_ HW_ => ?_)
              generalize wr.drew = w54 at HO_9 HO_10 HO_946001 HO_946002 BK945 HB HL972_0 HR972_0 hx971_0 hx972_0 hx973_0 hHeld ⊢
              refine pv_ 0 64 (mk_ 1 13) HT_ ?_
              refine pv_ 1 65 (mk_ 2 12) HT_ ?_
              refine pv_ 2 66 (mk_ 3 11) HT_ ?_
              refine pv_ 4 68 #[true, true, true, false, true, false, false, false, false, false, false, false, false, false] HT_ ?_
              refine pv_ 5 69 #[true, true, true, false, true, true, false, false, false, false, false, false, false, false] HT_ ?_
              refine pv_ 6 70 #[true, true, true, false, true, true, true, false, false, false, false, false, false, false] HT_ ?_
              refine pv_ 7 71 #[true, true, true, false, true, true, true, true, false, false, false, false, false, false] HT_ ?_
              refine pv_ 9 73 #[true, true, true, false, true, true, true, true, false, true, false, false, false, false] HT_ ?_
              refine tv_ 3 67 #[true, true, true, true, true, true, true, true, false, true, false, false, false, false] HT_ HW_ hHeld (hy := by rintro w' ⟨s0, s1, s2⟩; go_simp; with_reducible rfl) (h := ?_)
              refine tv_ 8 72 (mk_ 10 4) HT_ HW_ hHeld (hy := by rintro w' ⟨s0, s1, s2⟩; go_simp; with_reducible rfl) (h := ?_)
              refine pv_ 10 74 (mk_ 11 3) HT_ ?_
              refine tv_ 11 75 (mk_ 12 2) HT_ HW_ hHeld (hy := by rintro w' ⟨s0, s1, s2⟩; go_simp; with_reducible rfl) (h := ?_)
              refine one_ (i := 12) (N := some 76) (mk_ 13 1) rfl rfl (one_of HT_.out (by kernel_rfl)) (by decide) (fun K hK => ?_)
              refine goes_ Try.func47 (by kernel_rfl) rfl #[.int .u64 (Int.tmod a2 18446744073709551615), .int .u64 (rd (rd_L7 t960 (ji47)) x11_2)] (by rfl) rfl rfl (by (try simp only [List.map_toArray, List.map_cons, List.map_nil]); first | done | (simp only [hji47]; rfl) | rfl | (simp only [List.length_drop, List.length_take]; rfl)) ?_
              with_reducible refine (marchlandref01_Plus.calls (Int.tmod a2 18446744073709551615) (rd (rd_L7 t960 (ji47)) x11_2) t974 _ A51.out).mono ?_
              rintro e w' ⟨rfl, ⟨nd, rfl⟩⟩
              refine ⟨_, rfl, ?_⟩
              refine hK.out _ _ ⟨hHeld.1, hHeld.2.1, hHeld.2.2⟩ (fun hHeld => ?_)
              clear hK K
              refine norm_ (a' := ?_) ?_ ?_
              rotate_left
              ·show Act.put _ (some 76) _ = _
               simp only [Act.put, List.setIfInBounds_toArray, List.set_cons_zero, List.set_cons_succ, i64_w, i32_w]
               rfl
              refine pv_ 13 77 (mk_ 14 0) HT_ ?_
              refine done_ (done_of HT_.out (by kernel_rfl)) ?_
              try go_wp2
              subst hji47
              go_roundg k2
              case measure => have := HJ8.out; have := HK2.out; omega
              case rel => exact ⟨(wrap64 (x11_2 + 1)), (by first | rfl | (simp; done) | (simp [*]; done)), H', ⟨by have := HJ8.out; have := HK2.out; omega⟩, ⟨sn HO_9⟩, ⟨rn HO_10⟩, ⟨rn HO_946001⟩, ⟨rn HO_946002⟩, ⟨bk BK945⟩, ⟨bn1 HB GE945⟩⟩
             ·rw [if_neg c52] at H
              have c52b0 : ((rd t966 x11_2) == t974) = false := beq_eq_false_iff_ne.mpr c52
              have c52b1 : ((rd t966 x11_2) != t974) = true := bne_iff_ne.mpr c52
              obtain rfl := Option.some.inj H
              have hcz56_0 : wr.cell? ⟨gb945, 0, none⟩ = some (.int .i64 t946) := (blk_cell BK945.out 0).trans rfl
              have hcz56_1 : wr.cell? ⟨gb945, 1, none⟩ = some (.slice Ao14 t947.length co14) := (blk_cell BK945.out 1).trans rfl
              have hcz56_2 : wr.cell? ⟨gb945, 2, none⟩ = some (.slice Ao15 t950.length co15) := (blk_cell BK945.out 2).trans rfl
              have hfz56_0 := blk_frozen BK945.out 0
              have hfz56_1 := blk_frozen BK945.out 1
              have hfz56_2 := blk_frozen BK945.out 2
              try go_wp2
              have n0_ := Aside0.mk (Kd.S_drew HO_9.out)
              have n1_ := Aside0.mk (Kd.R_drew HO_10.out)
              have n2_ := Aside0.mk (Kd.R_drew HO_946001.out)
              have n3_ := Aside0.mk (Kd.R_drew HO_946002.out)
              have n4_ := Aside0.mk (blk_drew BK945.out)
              have n5_ := Aside0.mk (below_drew1 HB.out)
              clear HO_9
              clear HO_10
              clear HO_946001
              clear HO_946002
              clear BK945
              clear HB
              have HO_9 := n0_
              have HO_10 := n1_
              have HO_946001 := n2_
              have HO_946002 := n3_
              have BK945 := n4_
              have HB := n5_
              clear n0_ n1_ n2_ n3_ n4_ n5_
              obtain ⟨Ao58, co58, eo58⟩ := Kd.R_slice HO_10.out
              (first | subst eo58 | (injection eo58 with f1_ f2_ f3_; have f4_ := f1_.symm; have f5_ := f3_.symm; clear f1_ f2_ f3_; subst f4_; subst f5_))
              have p971 : 0 ≤ (x11_2 : Int) := of_decide_eq_true (by assumption)
              have q971 : x11_2 < (t966.length : Int) := of_decide_eq_true (by assumption)
              obtain ⟨ad971, e971, hx971_0⟩ := Kd.at_int (Kd.R_reads' HO_10.out).2.2 x11_2 p971 q971
              cases e971
              replace p971 := eq_true p971
              replace q971 := eq_true q971
              have p972 : 0 ≤ ((ji47) : Int) := of_decide_eq_true (by assumption)
              have q972 : (ji47) < (t960.length : Int) := of_decide_eq_true (by assumption)
              obtain ⟨ad972, A972_0, c972_0, e972, hx972_0, hl972_0, hi972_0⟩ := at_L7 (Kd.S_reads' HO_9.out).2.2 (ji47) p972 q972
              cases e972
              obtain ⟨ce972, hce972, hMe972, hcc972⟩ := Kd.S_get HO_9.out [] (ji47) p972 (by first | exact q972 | exact of_decide_eq_true (by assumption) | (have e_ := (Kd.S_reads' HO_9.out).1; omega))
              obtain ⟨ve972_0, rfl, ge972_0⟩ := hMe972
              have hv972_0 := hcc972 0 _ rfl
              rw [Nat.add_zero, show ((Kd.slice 38 (Kd.int .u64))).sz = 1 from rfl, Nat.mul_one] at hv972_0
              replace hv972_0 := Option.some.inj (hv972_0.symm.trans hx972_0)
              rw [hv972_0] at ge972_0
              have HL972_0 := Aside0.mk (show Kd.R (Kd.int .u64) 38 _ _ _ _ (rd_L7 t960 (ji47)) from ge972_0)
              clear hv972_0 ge972_0
              clear hcc972 hce972
              have HR972_0 := Aside0.mk hi972_0
              have HC972_0 := Aside0.mk hl972_0
              clear hi972_0 hl972_0
              replace p972 := eq_true p972
              replace q972 := eq_true q972
              have p973 : 0 ≤ (x11_2 : Int) := of_decide_eq_true (by assumption)
              have q973 : x11_2 < ((rd_L7 t960 (ji47)).length : Int) := of_decide_eq_true (by assumption)
              obtain ⟨ad973, e973, hx973_0⟩ := Kd.at_int (by repeat (first | (with_reducible exact HR972_0.out) | (with_reducible refine Kd.C_alloc ?_ _) | (with_reducible refine Kd.C_drewN ?_ _) | (with_reducible refine Kd.C_drew ?_) | exact HR972_0.out)) x11_2 p973 q973
              cases e973
              replace p973 := eq_true p973
              replace q973 := eq_true q973
              refine start_ (n := 14) (S := fun w' => w'.cell? (ad971.add (x11_2).toNat) = some (.int .u64 (rd t966 x11_2)) ∧ w'.cell? (ad972.add ((ji47)).toNat) = some (.slice (some ad973) (rd_L7 t960 (ji47)).length c972_0) ∧ w'.cell? (ad973.add (x11_2).toNat) = some (.int .u64 (rd (rd_L7 t960 (ji47)) x11_2))) (ds := []) (mk_ 0 14) (by kernel_rfl) rfl rfl ⟨hx971_0, hx972_0, hx973_0⟩ (fun hHeld => ?_); refine with_tabW marchlandlaw06_FrontWays.tab11 marchlandlaw06_FrontWays.bits11 (fun HT_ HW_ => ?_)
              generalize wr.drew = w57 at HO_9 HO_10 HO_946001 HO_946002 BK945 HB HL972_0 HR972_0 hx971_0 hx972_0 hx973_0 hHeld ⊢
              refine pv_ 0 64 (mk_ 1 13) HT_ ?_
              refine pv_ 1 65 (mk_ 2 12) HT_ ?_
              refine pv_ 2 66 (mk_ 3 11) HT_ ?_
              refine pv_ 4 68 #[true, true, true, false, true, false, false, false, false, false, false, false, false, false] HT_ ?_
              refine pv_ 5 69 #[true, true, true, false, true, true, false, false, false, false, false, false, false, false] HT_ ?_
              refine pv_ 6 70 #[true, true, true, false, true, true, true, false, false, false, false, false, false, false] HT_ ?_
              refine pv_ 7 71 #[true, true, true, false, true, true, true, true, false, false, false, false, false, false] HT_ ?_
              refine pv_ 9 73 #[true, true, true, false, true, true, true, true, false, true, false, false, false, false] HT_ ?_
              refine tv_ 3 67 #[true, true, true, true, true, true, true, true, false, true, false, false, false, false] HT_ HW_ hHeld (hy := by rintro w' ⟨s0, s1, s2⟩; go_simp; with_reducible rfl) (h := ?_)
              refine tv_ 8 72 (mk_ 10 4) HT_ HW_ hHeld (hy := by rintro w' ⟨s0, s1, s2⟩; go_simp; with_reducible rfl) (h := ?_)
              refine pv_ 10 74 (mk_ 11 3) HT_ ?_
              refine tv_ 11 75 (mk_ 12 2) HT_ HW_ hHeld (hy := by rintro w' ⟨s0, s1, s2⟩; go_simp; with_reducible rfl) (h := ?_)
              refine one_ (i := 12) (N := some 76) (mk_ 13 1) rfl rfl (one_of HT_.out (by kernel_rfl)) (by decide) (fun K hK => ?_)
              refine goes_ Try.func47 (by kernel_rfl) rfl #[.int .u64 (Int.tmod a2 18446744073709551615), .int .u64 (rd (rd_L7 t960 (ji47)) x11_2)] (by rfl) rfl rfl (by (try simp only [List.map_toArray, List.map_cons, List.map_nil]); first | done | (simp only [hji47]; rfl) | rfl | (simp only [List.length_drop, List.length_take]; rfl)) ?_
              with_reducible refine (marchlandref01_Plus.calls (Int.tmod a2 18446744073709551615) (rd (rd_L7 t960 (ji47)) x11_2) t974 _ A51.out).mono ?_
              rintro e w' ⟨rfl, ⟨nd, rfl⟩⟩
              refine ⟨_, rfl, ?_⟩
              refine hK.out _ _ ⟨hHeld.1, hHeld.2.1, hHeld.2.2⟩ (fun hHeld => ?_)
              clear hK K
              refine norm_ (a' := ?_) ?_ ?_
              rotate_left
              ·show Act.put _ (some 76) _ = _
               simp only [Act.put, List.setIfInBounds_toArray, List.set_cons_zero, List.set_cons_succ, i64_w, i32_w]
               rfl
              refine pv_ 13 77 (mk_ 14 0) HT_ ?_
              refine done_ (done_of HT_.out (by kernel_rfl)) ?_
              try go_wp2
              go_ret
              exact ⟨by first | rfl | (simp [errW_none, errW_some] <;> rfl) | (simp only [← hji47]; first | rfl | (simp [errW_none, errW_some] <;> rfl)) | (simp [*, errW_none, errW_some] <;> rfl), bn1 HB GE945⟩
            ·rw [if_neg c50] at H
             exact absurd H (by simp)
           ·rw [if_neg c49] at H
            exact absurd H (by simp)
          ·rw [if_neg c48] at H
           exact absurd H (by simp)
         ·rw [if_neg c46] at H
          exact absurd H (by simp)
        ·rw [if_neg c45] at H
         exact absurd H (by simp)
       ·rw [if_neg c44] at H
        have c44b0 : decide (x11_2 < t946) = false := decide_eq_false c44
        clear c44
        obtain ⟨ji59, hji59⟩ : ∃ j_ : Int, (wrap64 (Int.tmod (IntKind.u64.wrap (a1)) (IntKind.u64.wrap (t946)))) = j_ := ⟨_, rfl⟩
        replace H : (if 0 ≤ (ji59) then (if (ji59) < (t966.length : Int) then (some ((rd t966 (ji59)) == (Int.tmod a2 18446744073709551615))) else (none)) else (none)) = some r := by first | (rw [hji59] at H; exact H) | (simp only [hji59] at H ⊢; exact H)
        have hji59w : (IntKind.i64.wrap (Int.tmod (IntKind.u64.wrap (a1)) (IntKind.u64.wrap (t946)))) = ji59 := (i64_w _).trans hji59
        by_cases c60 : 0 ≤ (ji59)
        ·rw [if_pos c60] at H
         have c60b0 : decide (0 ≤ (ji59)) = true := decide_eq_true c60
         clear c60
         by_cases c61 : (ji59) < (t966.length : Int)
         ·rw [if_pos c61] at H
          have c61b0 : decide ((ji59) < (t966.length : Int)) = true := decide_eq_true c61
          clear c61
          obtain rfl := Option.some.inj H
          have hcz62_0 : wr.cell? ⟨gb945, 0, none⟩ = some (.int .i64 t946) := (blk_cell BK945.out 0).trans rfl
          have hcz62_1 : wr.cell? ⟨gb945, 1, none⟩ = some (.slice Ao14 t947.length co14) := (blk_cell BK945.out 1).trans rfl
          have hcz62_2 : wr.cell? ⟨gb945, 2, none⟩ = some (.slice Ao15 t950.length co15) := (blk_cell BK945.out 2).trans rfl
          have hfz62_0 := blk_frozen BK945.out 0
          have hfz62_1 := blk_frozen BK945.out 1
          have hfz62_2 := blk_frozen BK945.out 2
          obtain ⟨Ao63, co63, eo63⟩ := Kd.R_slice HO_10.out
          subst eo63
          have p975 : 0 ≤ ((ji59) : Int) := of_decide_eq_true (by assumption)
          have q975 : (ji59) < (t966.length : Int) := of_decide_eq_true (by assumption)
          obtain ⟨ad975, e975, hx975_0⟩ := Kd.at_int (Kd.R_reads' HO_10.out).2.2 (ji59) p975 q975
          cases e975
          replace p975 := eq_true p975
          replace q975 := eq_true q975
          go_wp2
          go_ret
          exact ⟨by first | rfl | (simp [errW_none, errW_some] <;> rfl) | (simp only [← hji59]; first | rfl | (simp [errW_none, errW_some] <;> rfl)) | (simp [*, errW_none, errW_some] <;> rfl), bn1 HB GE945⟩
         ·rw [if_neg c61] at H
          exact absurd H (by simp)
        ·rw [if_neg c60] at H
         exact absurd H (by simp)
end Go.Proofs.Ytgeldmhgbnamcaa.P
end
section
namespace Go.Proofs.Ytgeldmhgbnamcaa.P
open Go.RowKit Go.Proofs.YtgeldmhgbnamcaaW.PrintWords Go.Proofs.YtgeldmhgbnamcaaW.PrintLast Go.Proofs.YtgeldmhgbnamcaaW.PrintMore
set_option linter.unusedVariables false
set_option linter.unusedSimpArgs false
open Go.ChangeShapes Go.WideShapes Go.Deep
/-- Whatever reads at type t is told by the kind d, and is so as q says. -/
def Opens (P : Program) (t : TypeId) {α : Type} (d : Kd α) (q : α → Prop) : Prop :=
 ∀ (H : Type) (enc : TypeId × Value → H) (w : World) (base : Nat) (spare : Nat → Bool) (held : Bool) (fuel : Nat) (cs : List Value) (x : DataW H × List MemPlace),
  DataW.trod enc P w base spare held fuel t cs = some x → ∃ y : α, d.K w y cs ∧ q y
theorem Opens.int {P : Program} {t : TypeId} {k : IntKind} (hu : P.underlying t = some (.int k)) : Opens P t (Kd.int k) (fun n => (Lit.int k n).wf = true) := by
 intro H enc w base spare held fuel cs x h
 obtain ⟨n, rfl, _, hw⟩ := DataW.trod_int hu h
 exact ⟨n, rfl, hw⟩
theorem Opens.bool {P : Program} {t : TypeId} (hu : P.underlying t = some .bool) : Opens P t Kd.bool (fun _ => True) := by
 intro H enc w base spare held fuel cs x h
 obtain ⟨b, rfl, _⟩ := DataW.trod_bool hu h
 exact ⟨b, rfl, trivial⟩
theorem Opens.string {P : Program} {t : TypeId} (hu : P.underlying t = some .string) : Opens P t Kd.string (fun s => s.size ≤ maxLen) := by
 intro H enc w base spare held fuel cs x h
 obtain ⟨s, rfl, _, hs⟩ := DataW.trod_string hu h
 exact ⟨s, rfl, hs⟩
theorem Opens.imp {P : Program} {t : TypeId} {α : Type} {d : Kd α} {q q' : α → Prop} (h : Opens P t d q) (hq : ∀ y, q y → q' y) : Opens P t d q' := by
 intro H enc w base spare held fuel cs x hx
 obtain ⟨y, h1, h2⟩ := h H enc w base spare held fuel cs x hx
 exact ⟨y, h1, hq y h2⟩
theorem Opens.iso {P : Program} {t : TypeId} {α β : Type} {d : Kd α} {q : α → Prop} (h : Opens P t d q) (f : β → α) (g : α → β) (hfg : ∀ y, f (g y) = y) : Opens P t (Kd.iso d f) (fun x => q (f x)) := by
 intro H enc w base spare held fuel cs x hx
 obtain ⟨y, h1, h2⟩ := h H enc w base spare held fuel cs x hx
 refine ⟨g y, ?_, by show q (f (g y)); rw [hfg]; exact h2⟩
 show d.K w (f (g y)) cs
 rw [hfg]; exact h1
theorem Opens.slice {P : Program} {t e : TypeId} {α : Type} [Inhabited α] {d : Kd α} {q : α → Prop} (hu : P.underlying t = some (.slice e)) (hc : P.cellsOf e = d.sz) (h : Opens P e d q) : Opens P t (Kd.slice e d) (fun l => l.length ≤ maxLen ∧ ∀ y ∈ l, q y) := by
 intro H enc w base spare held fuel cs x hx
 rcases open_slice hu hx with ⟨rfl, _⟩ | ⟨a, len, cap, m, n, D, Pl, rfl, hb, hl, hm, hmm, _, hel⟩
 ·exact ⟨[], ⟨none, 0, rfl, Nat.le_refl _, rfl, Nat.zero_le _, fun h => absurd h (by simp)⟩, Nat.zero_le _, fun y hy => by simp at hy⟩
 ·have hlm : len ≤ m := by rw [hmm]; split <;> omega
  obtain ⟨Y, hY⟩ := choose_lt (α := α) (n := len) (p := fun i y => ∃ cs', w.cells? base (a.add (i * P.cellsOf e)) (P.cellsOf e) = some cs' ∧ d.K w y cs' ∧ q y) (fun i hi => by
   obtain ⟨cs', h1, h2⟩ := hel i (by omega)
   obtain ⟨y, h3, h4⟩ := h H enc w base spare held n cs' _ h2
   exact ⟨y, cs', h1, h3, h4⟩)
  have hlen : ((List.range len).map Y).length = len := by simp
  refine ⟨(List.range len).map Y, ⟨some a, cap, by rw [hlen], by rw [hlen]; exact hl, rfl, ?_, fun _ => ⟨a, rfl, fun j p hj => ?_⟩⟩, ?_, fun y hy => ?_⟩
  ·rw [hlen]; unfold maxLen at hm; omega
  ·obtain ⟨hjl, hje⟩ := List.getElem?_eq_some_iff.1 hj
   rw [hlen] at hjl
   have hpj : p = Y j := by rw [← hje]; simp
   obtain ⟨cs', h1, h3, _⟩ := hY j hjl
   obtain ⟨_, hcl, hcc⟩ := World.cells?_some h1
   refine ⟨cs', d.K_len h3, by rw [hpj]; exact h3, fun i u hu2 => ?_⟩
   have hi := (List.getElem?_eq_some_iff.1 hu2).1
   rw [d.K_len h3] at hi
   have h5 := hcc i (by rw [hc]; exact hi)
   rw [hc, Go.Deep.add_add] at h5
   rw [h5, ← hu2]
  ·rw [hlen]; omega
  ·obtain ⟨j, hj, rfl⟩ := List.mem_map.1 hy
   obtain ⟨_, _, _, h4⟩ := hY j (List.mem_range.1 hj)
   exact h4
/-- Fields, one behind the other, from a place on. -/
def OpensSeg (P : Program) (fs : List Field) (off : Nat) {α : Type} (d : Kd α) (q : α → Prop) : Prop :=
 ∀ (H : Type) (enc : TypeId × Value → H) (w : World) (base : Nat) (spare : Nat → Bool) (held : Bool) (fuel : Nat) (cs : List Value), cs.length = d.sz →
  (∀ f ∈ fs, ∃ x : DataW H × List MemPlace, DataW.trod enc P w base spare held fuel f.type ((cs.drop (f.offset - off)).take (P.cellsOf f.type)) = some x) → ∃ y : α, d.K w y cs ∧ q y
theorem OpensSeg.one {P : Program} {f : Field} {off : Nat} {α : Type} {d : Kd α} {q : α → Prop} (ho : f.offset = off) (hc : P.cellsOf f.type = d.sz) (h : Opens P f.type d q) : OpensSeg P [f] off d q := by
 intro H enc w base spare held fuel cs hl hf
 obtain ⟨x, hx⟩ := hf f List.mem_cons_self
 rw [ho, Nat.sub_self, List.drop_zero, hc, ← hl, List.take_length] at hx
 exact h H enc w base spare held fuel cs x hx
theorem OpensSeg.cons {P : Program} {f : Field} {fs : List Field} {off : Nat} {α β : Type} {d : Kd α} {d2 : Kd β} {q : α → Prop} {q2 : β → Prop} (ho : f.offset = off) (hc : P.cellsOf f.type = d.sz) (hm : ∀ g ∈ fs, off + d.sz ≤ g.offset) (h : Opens P f.type d q) (h2 : OpensSeg P fs (off + d.sz) d2 q2) :
  OpensSeg P (f :: fs) off (Kd.pair d d2) (fun y => q y.1 ∧ q2 y.2) := by
 intro H enc w base spare held fuel cs hl hf
 have hl' : cs.length = d.sz + d2.sz := hl
 obtain ⟨x, hx⟩ := hf f List.mem_cons_self
 rw [ho, Nat.sub_self, List.drop_zero, hc] at hx
 obtain ⟨y, h3, h4⟩ := h H enc w base spare held fuel _ x hx
 obtain ⟨y2, h5, h6⟩ := h2 H enc w base spare held fuel (cs.drop d.sz) (by rw [List.length_drop]; omega) (fun g hg => by
  obtain ⟨x2, hx2⟩ := hf g (List.mem_cons_of_mem _ hg)
  refine ⟨x2, ?_⟩
  have := hm g hg
  rw [List.drop_drop, show d.sz + (g.offset - (off + d.sz)) = g.offset - off by omega]
  exact hx2)
 exact ⟨(y, y2), ⟨cs.take d.sz, cs.drop d.sz, (List.take_append_drop _ _).symm, h3, h5⟩, h4, h6⟩
theorem Opens.struct {P : Program} {t : TypeId} {fs : Array Field} {α : Type} {d : Kd α} {q : α → Prop} (hu : P.underlying t = some (.struct fs)) (hc : P.cellsOf t = d.sz) (h : OpensSeg P fs.toList 0 d q) : Opens P t d q := by
 intro H enc w base spare held fuel cs x hx
 obtain ⟨xs, n, rfl, _, hl, hxs, hf⟩ := DataW.trod_struct hu hx
 refine h H enc w base spare held n cs (by rw [hl, hc]) (fun f hf2 => ?_)
 obtain ⟨i, hi, rfl⟩ := List.getElem_of_mem hf2
 have h1 := hf i fs.toList[i] (by rw [Array.getElem?_eq_getElem (by simpa using hi)]; simp)
 have hi2 : i < fs.size := by simpa using hi
 rw [List.getElem?_eq_getElem (by omega)] at h1
 exact ⟨_, by rw [Nat.sub_zero]; exact h1⟩
end Go.Proofs.Ytgeldmhgbnamcaa.P
end
section
namespace Go.Proofs.Ytgeldmhgbnamcaa.P
open Go.RowKit Go.Proofs.YtgeldmhgbnamcaaW.PrintWords Go.Proofs.YtgeldmhgbnamcaaW.PrintLast Go.Proofs.YtgeldmhgbnamcaaW.PrintMore
set_option linter.unusedVariables false
set_option linter.unusedSimpArgs false
instance : Inhabited S40 := ⟨z40⟩
theorem opens_i64 {P : Program} {t : TypeId} (hu : P.underlying t = some (.int .i64)) : Opens P t (Kd.int .i64) (fun n => -9223372036854775808 ≤ n ∧ n ≤ 9223372036854775807) := (Opens.int hu).imp fun _ h => bounds_i64 h
theorem opens_u64 {P : Program} {t : TypeId} (hu : P.underlying t = some (.int .u64)) : Opens P t (Kd.int .u64) (fun n => 0 ≤ n ∧ n ≤ 18446744073709551615) := (Opens.int hu).imp fun _ h => bounds_u64 h
end Go.Proofs.Ytgeldmhgbnamcaa.P
end
section
/- A graph as the reference has it, opened: a number, edges, inputs. -/
namespace Go.Proofs.Ytgeldmhgbnamcaa.P
open Go.RowKit Go.Proofs.YtgeldmhgbnamcaaW.PrintWords Go.Proofs.YtgeldmhgbnamcaaW.PrintLast Go.Proofs.YtgeldmhgbnamcaaW.PrintMore
open Go.ChangeShapes Go.WideShapes Go.Deep
set_option linter.unusedVariables false
set_option linter.unusedSimpArgs false
instance : Inhabited S90 := ⟨z90⟩
theorem opens90 : Opens Try.prog 90 k90 (fun x => 0 ≤ x.f2 ∧ x.f2 ≤ 18446744073709551615) :=
 (Opens.iso (Opens.struct (d := Kd.pair (Kd.int .i64) (Kd.pair (Kd.int .i64) (Kd.int .u64))) Try.underlying90 (by kernel_rfl)
  (OpensSeg.cons rfl (by kernel_rfl) (by decide) (opens_i64 Try.underlying3) (OpensSeg.cons rfl (by kernel_rfl) (by decide) (opens_i64 Try.underlying3) (OpensSeg.one rfl (by kernel_rfl) (opens_u64 Try.underlying38)))))
  (fun x : S90 => (x.f0, x.f1, x.f2)) (fun y => ⟨y.1, y.2.1, y.2.2⟩) (fun _ => rfl)).imp fun _ h => h.2.2
theorem opens58 : Opens Try.prog 58 (Kd.pair (Kd.int .i64) (Kd.pair (Kd.slice 90 k90) (Kd.slice 3 (Kd.int .i64)))) (fun y => ∀ x ∈ y.2.1, 0 ≤ x.f2 ∧ x.f2 ≤ 18446744073709551615) :=
 (Opens.struct Try.underlying58 (by kernel_rfl) (OpensSeg.cons rfl (by kernel_rfl) (by decide) (opens_i64 Try.underlying3) (OpensSeg.cons rfl (by kernel_rfl) (by decide) (Opens.slice Try.underlying55 (by kernel_rfl) opens90) (OpensSeg.one rfl (by kernel_rfl) (Opens.slice Try.underlying56 (by kernel_rfl) (opens_i64 Try.underlying3)))))).imp fun _ h => h.2.1.2
set_option maxRecDepth 100000 in
theorem open58 {H : Type} {enc : TypeId × Value → H} {w : World} {base : Nat} {spare : Nat → Bool} {held : Bool}
  {r : Reach} {b0 : Nat} {v : Value} {d : DataW H} {p : List MemPlace} (hv : Value.okWide Try.prog w r b0 58 v) (h : DataW.Trod enc Try.prog w base spare held 58 v d p) :
  ∃ (a0 : Int) (A1 : Option Addr) (c1 : Nat) (l1 : List S90) (A2 : Option Addr) (c2 : Nat) (l2 : List Int), v = .agg #[.int .i64 a0, .slice A1 l1.length c1, .slice A2 l2.length c2] ∧ Kd.C k90 w A1 l1.length l1 ∧ l1.length ≤ c1 ∧ (∀ y ∈ l1, 0 ≤ y.f2 ∧ y.f2 ≤ 18446744073709551615) ∧ Kd.C (Kd.int .i64) w A2 l2.length l2 ∧ l2.length ≤ c2 := by
 obtain ⟨cs, rfl⟩ : ∃ cs : Array Value, v = .agg cs := by
  simp only [Value.okWide, Try.underlying58] at hv
  obtain ⟨cs, h1, _⟩ := hv
  exact ⟨cs, h1⟩
 obtain ⟨fuel, hf⟩ := h
 obtain ⟨⟨a0, l1, l2⟩, hK, hq⟩ := opens58 H enc w base spare held fuel _ _ hf
 obtain ⟨s0, s1, e0, h0, t0, t1, e1, ⟨A1, c1, h1, hc1, hC1⟩, ⟨A2, c2, h2, hc2, hC2⟩⟩ := hK
 have h0 : s0 = [.int .i64 a0] := h0
 subst h0 h1 h2 e1
 refine ⟨a0, A1, c1, l1, A2, c2, l2, ?_, hC1, hc1, hq, hC2, hc2⟩
 have e0 : cs.toList = _ := e0
 congr 1
 apply Array.toList_inj.1
 rw [e0]; rfl
end Go.Proofs.Ytgeldmhgbnamcaa.P
end
section
-- Printed by the session's own turn of the print (wip/tools/print2.sh): some callees are proved by hand.
namespace Go.Proofs.Ytgeldmhgbnamcaa.P
open Go.RowKit Go.Proofs.YtgeldmhgbnamcaaW.PrintWords Go.Proofs.YtgeldmhgbnamcaaW.PrintLast Go.Proofs.YtgeldmhgbnamcaaW.PrintMore
attribute [local go_sem] max2_int min2_int max_two min_two max_three min_three max_four min_four   -- for this text's walks alone
set_option linter.unusedVariables false
set_option linter.unusedSimpArgs false
theorem eqA40 (d : Nat) (w : World) (x0 y0 : Int) (x1 y1 : Int) (x2 y2 : Int) :
  (Op.equalIn (d + 2) 40 (.agg #[.int .i64 x0, .int .u64 x1, .int .i64 x2]) (.agg #[.int .i64 y0, .int .u64 y1, .int .i64 y2])).run Try.prog w = .ok (x0 == y0 && (x1 == y1 && (x2 == y2))) w := by
 refine eqA_of Try.underlying40 (by kernel_rfl) ?_
 refine eqf_cons (by rfl) (by go_simp; rfl) (by go_simp; rfl) (by go_simp) ?_
 refine eqf_cons (by rfl) (by go_simp; rfl) (by go_simp; rfl) (by go_simp) ?_
 exact eqf_last (by rfl) (by go_simp; rfl) (by go_simp; rfl) (by go_simp)
end Go.Proofs.Ytgeldmhgbnamcaa.P
end
section
/- Plain laws of batches, first part: numbers, reading, order, sums by insertion. No program's step in sight, only the printed functions. -/
namespace Go.Proofs.Ytgeldmhgbnamcaa.Pure
open Go.RowKit Go.Proofs.Ytgeldmhgbnamcaa.P Go.Proofs.YtgeldmhgbnamcaaW.PrintWords Go.Proofs.YtgeldmhgbnamcaaW.PrintLast
set_option linter.unusedVariables false
set_option linter.unusedSimpArgs false
theorem w64s {n : Nat} (h : n ≤ 9000000000000000000) : wrap64 ((n : Int) + 1) = ((n + 1 : Nat) : Int) := by unfold wrap64; omega
theorem rd5 (p : List S50) (x : S50) (q : List S50) {i : Int} (h : i = p.length) : rd_T50 (p ++ x :: q) i = x := by subst h; simp [rd_T50]
theorem Ev.id {α : Type} {g f : Nat → Option α} {r : α} (k : Ev f r) (h : ∀ k, f k = g k) : Ev g r := Ev.congr (fun k => (h k).symm) k
def u (x : S40) : S50 := ⟨x.f0, x.f1, x.f2⟩
def v (x : S50) : S40 := ⟨x.f0, x.f1, x.f2⟩
/-! ### the order -/
def kl (a b : S50) : Prop := a.f0 < b.f0 ∨ (a.f0 = b.f0 ∧ a.f1 < b.f1)
def ke (a b : S50) : Prop := a.f0 = b.f0 ∧ a.f1 = b.f1
instance (a b : S50) : Decidable (kl a b) := by unfold kl; exact inferInstance
instance (a b : S50) : Decidable (ke a b) := by unfold ke; exact inferInstance
def wi (n : Int) : Prop := -576460752303423488 ≤ n ∧ n ≤ 576460752303423488
instance (n : Int) : Decidable (wi n) := by unfold wi; exact inferInstance
/-! ### sums by insertion -/
def plus (y x : S50) : S50 := ⟨y.f0, y.f1, wrap64 (y.f2 + x.f2)⟩
def ins (x : S50) : List S50 → List S50
 | [] => [x]
 | y :: l => if ke y x then plus y x :: l else if kl x y then x :: y :: l else y :: ins x l
/-- strictly in order -/
abbrev Str (l : List S50) : Prop := l.Pairwise kl
def fin (G : List S50) : List S50 := G.filter (fun x => decide (x.f2 ≠ 0))
end Go.Proofs.Ytgeldmhgbnamcaa.Pure
end
section
/- Shortest ways: the in-place closure over all ports between, and so many rounds over all edges, come to the same. In plain Lean, no program in sight: by potentials (what may not fall faster than the edges let it). -/
set_option linter.unusedVariables false
namespace Go.Proofs.Ytgeldmhgbnamcaa.Pure.FW
def N : Int := 18446744073709551615
def pl (t s : Int) : Int := if N ≤ t + s then N else t + s
def In (x : Int) : Prop := 0 ≤ x ∧ x ≤ N
theorem pl_in {a b : Int} (ha : In a) (hb : In b) : In (pl a b) := by unfold In pl N at *; split <;> omega
theorem pl_zero {a : Int} (ha : In a) : pl a 0 = a := by unfold In pl N at *; split <;> omega
theorem zero_pl {a : Int} (ha : In a) : pl 0 a = a := by unfold In pl N at *; split <;> omega
theorem pl_mono {a b c d : Int} (h : a ≤ b) (h' : c ≤ d) : pl a c ≤ pl b d := by unfold pl N; split <;> split <;> omega
theorem pl_assoc {a b c : Int} (ha : In a) (hb : In b) (hc : In c) : pl (pl a b) c = pl a (pl b c) := by unfold In pl N at *; repeat' split <;> omega
theorem le_pl {a b : Int} (ha : In a) (hb : In b) : a ≤ pl a b := by unfold In pl N at *; split <;> omega
theorem le_pl' {a b : Int} (ha : In a) (hb : In b) : b ≤ pl a b := by unfold In pl N at *; split <;> omega
theorem in_zero : In 0 := by unfold In N; omega
theorem in_N : In N := by unfold In N; omega
structure Ed where
 f : Nat
 t : Nat
 a : Int
def EOk (n : Nat) (E : List Ed) : Prop := ∀ e ∈ E, e.f < n ∧ e.t < n ∧ In e.a
def D0 (i j : Nat) : Int := if i = j then 0 else N
theorem d0_in (i j : Nat) : In (D0 i j) := by unfold D0; split; exact in_zero; exact in_N
/-- what may not be more behind an edge than ahead of it, and the edge -/
structure Pot (n : Nat) (E : List Ed) (y : Nat → Int) : Prop where
 inn : ∀ v, v < n → In (y v)
 edge : ∀ e ∈ E, y e.t ≤ pl (y e.f) e.a
abbrev Mat := Nat → Nat → Int
def addE (M : Mat) (e : Ed) : Mat := fun i j => if e.f ≠ e.t ∧ i = e.f ∧ j = e.t then min (M i j) e.a else M i j
def fw (M : Mat) (k : Nat) : Mat := fun i j => min (M i j) (pl (M i k) (M k j))
def wk (E : List Ed) : Nat → Mat
 | 0 => E.foldl addE D0
 | k + 1 => fw (wk E k) k
/-- what stays so in all steps -/
structure Good (n : Nat) (E : List Ed) (M : Mat) : Prop where
 inn : ∀ i j, i < n → j < n → In (M i j)
 diag : ∀ i, i < n → M i i = 0
 pot : ∀ y, Pot n E y → ∀ i j, i < n → j < n → y j ≤ pl (y i) (M i j)
theorem good_d0 (n : Nat) (E : List Ed) : Good n E D0 := by
 refine ⟨fun i j _ _ => d0_in i j, fun i _ => by simp [D0], fun y hy i j hi hj => ?_⟩
 unfold D0
 by_cases c : i = j
 ·subst c; rw [if_pos rfl, pl_zero (hy.inn i hi)]; exact Int.le_refl _
 ·rw [if_neg c]
  have := hy.inn i hi; have := hy.inn j hj
  exact Int.le_trans (hy.inn j hj).2 (le_pl' (hy.inn i hi) in_N)
theorem good_addE {n : Nat} {E : List Ed} (hE : EOk n E) {M : Mat} (h : Good n E M) {e : Ed} (he : e ∈ E) : Good n E (addE M e) := by
 obtain ⟨e1, e2, e3⟩ := hE e he
 refine ⟨fun i j hi hj => ?_, fun i hi => ?_, fun y hy i j hi hj => ?_⟩
 ·unfold addE; have := h.inn i j hi hj; unfold In at *; split <;> omega
 ·unfold addE; rw [if_neg (by rintro ⟨a, b, c⟩; exact a (b.symm.trans c))]; exact h.diag i hi
 ·unfold addE
  have h1 := h.pot y hy i j hi hj
  split
  next c =>
   obtain ⟨_, rfl, rfl⟩ := c
   have h2 := hy.edge e he
   rcases Int.le_total (M e.f e.t) e.a with q | q
   ·rw [Int.min_eq_left q]; exact h1
   ·rw [Int.min_eq_right q]; exact h2
  next c => exact h1
theorem good_foldE {n : Nat} {E : List Ed} (hE : EOk n E) : ∀ (F : List Ed), (∀ e ∈ F, e ∈ E) → ∀ M, Good n E M → Good n E (F.foldl addE M)
 | [], _, M, h => h
 | e :: F, hF, M, h => good_foldE hE F (fun x hx => hF x (List.mem_cons_of_mem _ hx)) _ (good_addE hE h (hF e List.mem_cons_self))
theorem good_fw {n : Nat} {E : List Ed} {M : Mat} (h : Good n E M) {k : Nat} (hk : k < n) : Good n E (fw M k) := by
 refine ⟨fun i j hi hj => ?_, fun i hi => ?_, fun y hy i j hi hj => ?_⟩
 ·unfold fw; have := h.inn i j hi hj; have := pl_in (h.inn i k hi hk) (h.inn k j hk hj); unfold In at *; omega
 ·unfold fw; rw [h.diag i hi]; have := pl_in (h.inn i k hi hk) (h.inn k i hk hi); unfold In at this; omega
 ·unfold fw
  have h1 := h.pot y hy i j hi hj
  have h2 := h.pot y hy i k hi hk
  have h3 := h.pot y hy k j hk hj
  have h4 : y j ≤ pl (y i) (pl (M i k) (M k j)) := by
   rw [← pl_assoc (hy.inn i hi) (h.inn i k hi hk) (h.inn k j hk hj)]
   exact Int.le_trans h3 (pl_mono h2 (Int.le_refl _))
  rcases Int.le_total (M i j) (pl (M i k) (M k j)) with q | q
  ·rw [Int.min_eq_left q]; exact h1
  ·rw [Int.min_eq_right q]; exact h4
theorem good_wk {n : Nat} {E : List Ed} (hE : EOk n E) : ∀ k, k ≤ n → Good n E (wk E k)
 | 0, _ => good_foldE hE E (fun _ h => h) _ (good_d0 n E)
 | k + 1, h => good_fw (good_wk hE k (by omega)) (by omega)
/-- and the greatest one that is 0 there -/
theorem ways_most {n : Nat} {E : List Ed} (hE : EOk n E) {i j : Nat} (hi : i < n) (hj : j < n) {y : Nat → Int} (hy : Pot n E y) (h0 : y i = 0) : y j ≤ wk E n i j := by
 have G := good_wk hE n (Nat.le_refl n)
 have := G.pot y hy i j hi hj
 rwa [h0, zero_pl (G.inn i j hi hj)] at this
/-- a row, one edge on -/
def rs (r : Nat → Int) (e : Ed) : Nat → Int := fun j => if j = e.t ∧ pl (r e.f) e.a < r e.t then pl (r e.f) e.a else r j
/-- where edges back take 1 at least no way round takes no time -/
theorem no_round {n : Nat} {E : List Ed} (hE : EOk n E) (hb : ∀ e ∈ E, e.t ≤ e.f → 1 ≤ e.a) {f t : Nat} (hf : f < n) (ht : t < n) (h : f < t) : wk E n t f ≠ 0 := by
 intro c
 let y : Nat → Int := fun v => if t ≤ v then 0 else 1
 have hy : Pot n E y := by
  refine ⟨fun v _ => ?_, fun e he => ?_⟩
  ·by_cases c : t ≤ v
   ·rw [show y v = 0 from if_pos c]; exact in_zero
   ·rw [show y v = 1 from if_neg c]; unfold In N; omega
  ·obtain ⟨h1, h2, h3⟩ := hE e he
   have hb := hb e he
   by_cases c1 : t ≤ e.t
   ·rw [show y e.t = 0 from if_pos c1]
    by_cases c2 : t ≤ e.f
    ·rw [show y e.f = 0 from if_pos c2, zero_pl h3]; exact h3.1
    ·rw [show y e.f = 1 from if_neg c2]; unfold In pl N at *; split <;> omega
   ·rw [show y e.t = 1 from if_neg c1]
    by_cases c2 : t ≤ e.f
    ·rw [show y e.f = 0 from if_pos c2, zero_pl h3]; exact hb (by omega)
    ·rw [show y e.f = 1 from if_neg c2]; unfold In pl N at *; split <;> omega
 have := ways_most hE ht hf hy (if_pos (Nat.le_refl t))
 rw [show y f = 1 from if_neg (by omega), c] at this
 omega
end Go.Proofs.Ytgeldmhgbnamcaa.Pure.FW
end
section
/- graph.ways: what it answers: the shortest ways (HPureG), as a square of numbers. -/
namespace Go.Proofs.Ytgeldmhgbnamcaa.Pure
open Go.RowKit Go.Proofs.Ytgeldmhgbnamcaa.P Go.Proofs.YtgeldmhgbnamcaaW.PrintWords Go.Proofs.YtgeldmhgbnamcaaW.PrintLast Go.Proofs.YtgeldmhgbnamcaaW.PrintMore
open FW
set_option linter.unusedVariables false
set_option linter.unusedSimpArgs false
/-- a row by places -/
def Ls {α : Type} (n : Nat) (g : Nat → α) : List α := (List.range n).map g
theorem ls_len {α : Type} (n : Nat) (g : Nat → α) : (Ls n g).length = n := by simp [Ls]
theorem ls_get {α : Type} (n : Nat) (g : Nat → α) (d : α) {i : Nat} (h : i < n) : (Ls n g).getD i d = g i := by
 simp [Ls, List.getD, h]
theorem ls_set {α : Type} (n : Nat) (g : Nat → α) (i : Nat) (x : α) : (Ls n g).set i x = Ls n (fun a => if a = i then x else g a) := by
 apply List.ext_getElem
 ·simp [Ls]
 ·intro j h1 h2
  simp only [Ls, List.getElem_set, List.getElem_map, List.getElem_range]
  by_cases c : i = j
  ·rw [if_pos c, if_pos c.symm]
  ·rw [if_neg c, if_neg (fun q => c q.symm)]
theorem ls_congr {α : Type} {n : Nat} {f g : Nat → α} (h : ∀ i, i < n → f i = g i) : Ls n f = Ls n g := by
 unfold Ls; exact List.map_congr_left fun i hi => h i (List.mem_range.1 hi)
theorem ls_rep {α : Type} (n : Nat) (x : α) : List.replicate n x = Ls n (fun _ => x) := by
 apply List.ext_getElem <;> simp [Ls]
theorem ls_snoc {α : Type} (n : Nat) (g : Nat → α) : Ls n g ++ [g n] = Ls (n + 1) g := by simp [Ls, List.range_succ]
theorem ls_rd (n : Nat) (g : Nat → Int) {i : Nat} (h : i < n) : rd (Ls n g) (i : Int) = g i := by unfold rd; rw [Int.toNat_natCast, ls_get n g 0 h]
theorem ls_rdL (n : Nat) (g : Nat → List Int) {i : Nat} (h : i < n) : rd_L7 (Ls n g) (i : Int) = g i := by unfold rd_L7; rw [Int.toNat_natCast, ls_get n g [] h]
def mat (n : Nat) (M : Mat) : List (List Int) := Ls n fun i => Ls n (M i)
theorem mat_len (n : Nat) (M : Mat) : (mat n M).length = n := ls_len n _
theorem mat_row (n : Nat) (M : Mat) {i : Nat} (h : i < n) : rd_L7 (mat n M) (i : Int) = Ls n (M i) := ls_rdL n _ h
theorem mat_congr {n : Nat} {M W : Mat} (h : ∀ i j, i < n → j < n → M i j = W i j) : mat n M = mat n W := ls_congr fun i hi => ls_congr fun j hj => h i j hi hj
def upd (M : Mat) (i j : Nat) (x : Int) : Mat := fun a b => if a = i ∧ b = j then x else M a b
theorem mat_set (n : Nat) (M : Mat) (i j : Nat) (x : Int) : (mat n M).set i ((Ls n (M i)).set j x) = mat n (upd M i j x) := by
 unfold mat
 rw [ls_set, ls_set]
 refine ls_congr fun a _ => ?_
 by_cases c : a = i
 ·rw [if_pos c]; refine ls_congr fun b _ => ?_
  unfold upd; subst c
  by_cases d : b = j
  ·rw [if_pos d, if_pos ⟨rfl, d⟩]
  ·rw [if_neg d, if_neg (fun q => d q.2)]
 ·rw [if_neg c]; refine ls_congr fun b _ => ?_
  unfold upd; rw [if_neg (fun q => c q.1)]
theorem mn_eq (a b : Int) : mn a b = min a b := by unfold mn; split <;> omega
theorem plus_eq {a b : Int} (ha : In a) (hb : In b) : stamp_Plus.f a b = some (pl a b) := by
 unfold In N at ha hb
 have e : IntKind.u64.wrap (18446744073709551615 - b) = 18446744073709551615 - b := by rw [IntKind.wrap_u64]; omega
 unfold stamp_Plus.f pl N
 rw [e]
 by_cases c : 18446744073709551615 ≤ a + b
 ·rw [if_pos (by omega), if_pos c]
 ·rw [if_neg (by omega), if_neg c, show IntKind.u64.wrap (a + b) = a + b by rw [IntKind.wrap_u64]; omega]
theorem w64 {n : Nat} (h : n < 1000000) : wrap64 ((n : Int) + 1) = ((n + 1 : Nat) : Int) := by unfold wrap64; omega
def ed (e : S95) : Ed := ⟨e.f0.toNat, e.f1.toNat, e.f2⟩
def WE (n : Nat) (E : List S95) : Prop := ∀ e ∈ E, 0 ≤ e.f0 ∧ e.f0 < n ∧ 0 ≤ e.f1 ∧ e.f1 < n ∧ In e.f2
theorem we_ok {n : Nat} {E : List S95} (h : WE n E) : EOk n (E.map ed) := by
 intro e he
 obtain ⟨x, hx, rfl⟩ := List.mem_map.1 he
 obtain ⟨h1, h2, h3, h4, h5⟩ := h x hx
 exact ⟨by show x.f0.toNat < n; omega, by show x.f1.toNat < n; omega, h5⟩
theorem rep_eq {n : Nat} (h : n ≤ 1000000) : slices_Repeat.f [18446744073709551615] (n : Int) = some (List.replicate n 18446744073709551615) := by
 unfold slices_Repeat.f
 rw [if_pos ⟨rfl, by omega, by omega⟩, Int.toNat_natCast]
 rfl
/-- the square, the k-th port let in for the places ahead of (i, j) -/
def St (M : Mat) (k i j : Nat) : Mat := fun a b => if a < i ∨ (a = i ∧ b < j) then fw M k a b else M a b
theorem st_next {n : Nat} {E : List Ed} {M : Mat} (G : FW.Good n E M) {k i j : Nat} (hk : k < n) (hi : i < n) (hj : j < n) :
  (mat n (St M k i j)).set i ((Ls n (St M k i j i)).set j (mn (St M k i j i j) (pl (St M k i j i k) (St M k i j k j)))) = mat n (St M k i (j + 1)) := by
 have e1 : fw M k i k = M i k := by unfold fw; rw [G.diag k hk, pl_zero (G.inn i k hi hk)]; omega
 have e2 : fw M k k j = M k j := by unfold fw; rw [G.diag k hk, zero_pl (G.inn k j hk hj)]; omega
 have a1 : St M k i j i j = M i j := by unfold St; rw [if_neg (by omega)]
 have a2 : St M k i j i k = M i k := by unfold St; split; exact e1; rfl
 have a3 : St M k i j k j = M k j := by unfold St; split; exact e2; rfl
 rw [a1, a2, a3, mn_eq, mat_set]
 refine mat_congr fun a b ha hb => ?_
 unfold upd
 by_cases c : a = i ∧ b = j
 ·obtain ⟨rfl, rfl⟩ := c
  rw [if_pos ⟨rfl, rfl⟩]; unfold St; rw [if_pos (by omega)]; rfl
 ·rw [if_neg c]; unfold St
  by_cases d : a < i ∨ a = i ∧ b < j
  ·rw [if_pos d, if_pos (by omega)]
  ·rw [if_neg d, if_neg (by omega)]
section
variable {n : Nat} {E : List S95} {I : List Int}
theorem ways_l4 {M : Mat} (G : FW.Good n (E.map ed) M) (hn : n ≤ 1000) {k i : Nat} (hk : k < n) (hi : i < n) (a : Int) (R : List (List Int)) (h : Ev (fun q => graph_Graph_ways.l3 q (mat n (St M k i n)) k (n : Int) a (n : Int) (wrap64 ((i : Int) + 1)) (n : Int) E I) R) :
  ∀ d j : Nat, j + d = n → Ev (fun q => graph_Graph_ways.l4 q (mat n (St M k i j)) k i (n : Int) a (n : Int) (i : Int) (n : Int) (j : Int) (n : Int) E I) R
 | 0, j, hj => by
  obtain rfl : j = n := by omega
  obtain ⟨K, h⟩ := h
  refine ⟨K + 1, fun q hq => ?_⟩
  obtain ⟨q, rfl⟩ : ∃ m, q = m + 1 := ⟨q - 1, by omega⟩
  show graph_Graph_ways.l4 (q + 1) _ _ _ _ _ _ _ _ _ _ _ _ = _
  rw [graph_Graph_ways.l4, if_neg (by omega)]
  exact h q (by omega)
 | d + 1, j, hj => by
  obtain ⟨K, h⟩ := ways_l4 G hn hk hi a R h d (j + 1) (by omega)
  have hjn : j < n := by omega
  refine ⟨K + 1, fun q hq => ?_⟩
  obtain ⟨q, rfl⟩ : ∃ m, q = m + 1 := ⟨q - 1, by omega⟩
  have h := h q (by omega)
  dsimp only at h
  have r1 := mat_row n (St M k i j) hi
  have r2 := mat_row n (St M k i j) hk
  have i1 : In (St M k i j i k) := by unfold St; split; exact (good_fw G hk).inn i k hi hk; exact G.inn i k hi hk
  have i2 : In (St M k i j k j) := by unfold St; split; exact (good_fw G hk).inn k j hk hjn; exact G.inn k j hk hjn
  show graph_Graph_ways.l4 (q + 1) _ _ _ _ _ _ _ _ _ _ _ _ = _
  rw [graph_Graph_ways.l4, if_pos (by omega), if_pos (by omega), mat_len, if_pos (by omega), if_pos (by omega), r1, ls_len, if_pos (by omega), if_pos (by omega), if_pos (by omega), if_pos (by omega), r2, ls_len, if_pos (by omega), ls_rd n _ hk, ls_rd n _ hjn, plus_eq i1 i2, Option.bind_some, ls_rd n _ hjn, Int.toNat_natCast, Int.toNat_natCast, st_next G hk hi hjn, w64 (by omega)]
  exact h
theorem ways_l3 {M : Mat} (G : FW.Good n (E.map ed) M) (hn : n ≤ 1000) {k : Nat} (hk : k < n) (a : Int) (R : List (List Int)) (h : Ev (fun q => graph_Graph_ways.l2 q (mat n (fw M k)) (n : Int) (wrap64 (a + 1)) (n : Int) E I) R) :
  ∀ d i : Nat, i + d = n → Ev (fun q => graph_Graph_ways.l3 q (mat n (St M k i 0)) k (n : Int) a (n : Int) (i : Int) (n : Int) E I) R
 | 0, i, hi => by
  obtain rfl : i = n := by omega
  have e : mat i (St M k i 0) = mat i (fw M k) := mat_congr fun x y hx hy => by unfold St; rw [if_pos (by omega)]
  obtain ⟨K, h⟩ := h
  refine ⟨K + 1, fun q hq => ?_⟩
  obtain ⟨q, rfl⟩ : ∃ m, q = m + 1 := ⟨q - 1, by omega⟩
  show graph_Graph_ways.l3 (q + 1) _ _ _ _ _ _ _ _ _ = _
  rw [graph_Graph_ways.l3, if_neg (by omega), e]
  exact h q (by omega)
 | d + 1, i, hi => by
  have hin : i < n := by omega
  have e : mat n (St M k i n) = mat n (St M k (i + 1) 0) := mat_congr fun x y hx hy => by
   unfold St
   by_cases c : x < i + 1
   ·rw [if_pos (by omega), if_pos (by omega)]
   ·rw [if_neg (by omega), if_neg (by omega)]
  have ih := ways_l3 G hn hk a R h d (i + 1) (by omega)
  rw [← e] at ih
  have h4 := ways_l4 G hn hk hin a R (by rw [w64 (by omega)]; exact ih) n 0 (by omega)
  obtain ⟨K, h4⟩ := h4
  refine ⟨K + 1, fun q hq => ?_⟩
  obtain ⟨q, rfl⟩ : ∃ m, q = m + 1 := ⟨q - 1, by omega⟩
  show graph_Graph_ways.l3 (q + 1) _ _ _ _ _ _ _ _ _ = _
  rw [graph_Graph_ways.l3, if_pos (by omega)]
  exact h4 q (by omega)
theorem ways_l2 (hE : WE n E) (hn : n ≤ 1000) : ∀ d k : Nat, k + d = n → Ev (fun q => graph_Graph_ways.l2 q (mat n (wk (E.map ed) k)) (n : Int) (k : Int) (n : Int) E I) (mat n (wk (E.map ed) n))
 | 0, k, hk => by
  obtain rfl : k = n := by omega
  refine ⟨1, fun q hq => ?_⟩
  obtain ⟨q, rfl⟩ : ∃ m, q = m + 1 := ⟨q - 1, by omega⟩
  show graph_Graph_ways.l2 (q + 1) _ _ _ _ _ _ = _
  rw [graph_Graph_ways.l2, if_neg (by omega)]
 | d + 1, k, hk => by
  have ih := ways_l2 hE hn d (k + 1) (by omega)
  have h3 := ways_l3 (good_wk (we_ok hE) k (by omega)) hn (show k < n by omega) (k : Int) _ (by rw [w64 (by omega)]; exact ih) n 0 (by omega)
  have e : mat n (St (wk (E.map ed) k) k 0 0) = mat n (wk (E.map ed) k) := mat_congr fun x y hx hy => by unfold St; rw [if_neg (by omega)]
  rw [e] at h3
  obtain ⟨K, h3⟩ := h3
  refine ⟨K + 1, fun q hq => ?_⟩
  obtain ⟨q, rfl⟩ : ∃ m, q = m + 1 := ⟨q - 1, by omega⟩
  show graph_Graph_ways.l2 (q + 1) _ _ _ _ _ _ = _
  rw [graph_Graph_ways.l2, if_pos (by omega)]
  exact h3 q (by omega)
theorem rd95 (p : List S95) (x : S95) (q : List S95) {i : Int} (h : i = p.length) : rd_T95 (p ++ x :: q) i = x := by subst h; simp [rd_T95]
theorem addE_set (n : Nat) (M : Mat) (x : S95) (h0 : 0 ≤ x.f0) (h1 : 0 ≤ x.f1) (hne : ¬ x.f0 = x.f1) : (mat n M).set x.f0.toNat ((Ls n (M x.f0.toNat)).set x.f1.toNat (mn (M x.f0.toNat x.f1.toNat) x.f2)) = mat n (addE M (ed x)) := by
 rw [mat_set, mn_eq]
 refine mat_congr fun a b _ _ => ?_
 unfold upd addE ed
 by_cases c : a = x.f0.toNat ∧ b = x.f1.toNat
 ·rw [if_pos c, if_pos ⟨by show x.f0.toNat ≠ x.f1.toNat; omega, c.1, c.2⟩, c.1, c.2]
 ·rw [if_neg c, if_neg (fun q => c q.2)]
theorem addE_self (M : Mat) (x : S95) (h : x.f0 = x.f1) : addE M (ed x) = M := by
 funext a b
 unfold addE ed
 rw [if_neg (by rintro ⟨q, _⟩; exact q (congrArg Int.toNat h))]
theorem ways_l1 (hE : WE n E) (hn : n ≤ 1000) (hl : E.length ≤ 1000) : ∀ (rest pre : List S95), E = pre ++ rest → Ev (fun q => graph_Graph_ways.l1 q (mat n ((pre.map ed).foldl addE D0)) E (E.length : Int) (pre.length : Int) (n : Int) E I) (mat n (wk (E.map ed) n))
 | [], pre, h => by
  rw [List.append_nil] at h
  subst h
  obtain ⟨K, h2⟩ := ways_l2 (I := I) hE hn n 0 (by omega)
  refine ⟨K + 1, fun q hq => ?_⟩
  obtain ⟨q, rfl⟩ : ∃ m, q = m + 1 := ⟨q - 1, by omega⟩
  show graph_Graph_ways.l1 (q + 1) _ _ _ _ _ _ _ = _
  rw [graph_Graph_ways.l1, if_neg (by omega)]
  exact h2 q (by omega)
 | x :: rest, pre, h => by
  have ih := ways_l1 hE hn hl rest (pre ++ [x]) (by rw [h]; simp)
  have hlen : pre.length + 1 ≤ E.length := by rw [h, List.length_append, List.length_cons]; omega
  obtain ⟨x0, x1, x2, x3, x4⟩ := hE x (by rw [h]; simp)
  have hr : rd_T95 E (pre.length : Int) = x := by rw [h]; exact rd95 pre x rest rfl
  rw [List.map_append, List.foldl_append] at ih
  simp only [List.map_cons, List.map_nil, List.foldl_cons, List.foldl_nil, List.length_append, List.length_cons, List.length_nil, Nat.zero_add] at ih
  obtain ⟨K, ih⟩ := ih
  generalize hM : (pre.map ed).foldl addE D0 = M at ih ⊢
  refine ⟨K + 1, fun q hq => ?_⟩
  obtain ⟨q, rfl⟩ : ∃ m, q = m + 1 := ⟨q - 1, by omega⟩
  have ih := ih q (by omega)
  dsimp only at ih
  have f0 : x.f0 = ((x.f0.toNat : Nat) : Int) := by omega
  have f1 : x.f1 = ((x.f1.toNat : Nat) : Int) := by omega
  have r1 : rd_L7 (mat n M) x.f0 = Ls n (M x.f0.toNat) := by rw [f0]; exact mat_row n M (by omega)
  have r2 : rd (Ls n (M x.f0.toNat)) x.f1 = M x.f0.toNat x.f1.toNat := by rw [f1]; exact ls_rd n _ (by omega)
  show graph_Graph_ways.l1 (q + 1) _ _ _ _ _ _ _ = _
  rw [graph_Graph_ways.l1, if_pos (by omega), if_pos (by omega), if_pos (by omega), hr]
  by_cases c : x.f0 = x.f1
  ·rw [if_pos c, w64 (by omega)]
   rw [addE_self M x c] at ih
   exact ih
  ·rw [if_neg c, if_pos x0, mat_len, if_pos x1, if_pos x2, r1, ls_len, if_pos x3, r2, addE_set n M x x0 x2 c, w64 (by omega)]
   exact ih
theorem ways_l0 (hE : WE n E) (hn : n ≤ 1000) (hl : E.length ≤ 1000) : ∀ d p : Nat, p + d = n → Ev (fun q => graph_Graph_ways.l0 q (Ls p fun i => Ls n (D0 i)) (n : Int) (p : Int) (n : Int) E I) (mat n (wk (E.map ed) n))
 | 0, p, hp => by
  obtain rfl : p = n := by omega
  obtain ⟨K, h⟩ := ways_l1 (I := I) hE hn hl E [] rfl
  refine ⟨K + 1, fun q hq => ?_⟩
  obtain ⟨q, rfl⟩ : ∃ m, q = m + 1 := ⟨q - 1, by omega⟩
  show graph_Graph_ways.l0 (q + 1) _ _ _ _ _ _ = _
  rw [graph_Graph_ways.l0, if_neg (by omega)]
  exact h q (by omega)
 | d + 1, p, hp => by
  obtain ⟨K, ih⟩ := ways_l0 hE hn hl d (p + 1) (by omega)
  refine ⟨K + 1, fun q hq => ?_⟩
  obtain ⟨q, rfl⟩ : ∃ m, q = m + 1 := ⟨q - 1, by omega⟩
  have ih := ih q (by omega)
  dsimp only at ih
  have e : (List.replicate n (18446744073709551615 : Int)).set p 0 = Ls n (D0 p) := by
   rw [ls_rep, ls_set]
   refine ls_congr fun a _ => ?_
   unfold D0 N
   by_cases c : a = p
   ·rw [if_pos c, if_pos c.symm]
   ·rw [if_neg c, if_neg (fun q => c q.symm)]
  show graph_Graph_ways.l0 (q + 1) _ _ _ _ _ _ = _
  rw [graph_Graph_ways.l0, if_pos (by omega), rep_eq (by omega), Option.bind_some, if_pos (by omega), List.length_replicate, if_pos (by omega), ls_len, if_pos (by omega), Int.toNat_natCast, e, ls_snoc p (fun i => Ls n (D0 i)), w64 (by omega)]
  exact ih
end
/-- GRAPH.WAYS. -/
theorem ways_ev {n : Nat} {E : List S95} (I : List Int) (hE : WE n E) (hn : n ≤ 1000) (hl : E.length ≤ 1000) : Ev (fun q => graph_Graph_ways.f q (n : Int) E I) (mat n (wk (E.map ed) n)) := ways_l0 hE hn hl n 0 (by omega)
end Go.Proofs.Ytgeldmhgbnamcaa.Pure
end
section
/- ref05.closed: what it answers: the same square. -/
namespace Go.Proofs.Ytgeldmhgbnamcaa.Pure
open Go.RowKit Go.Proofs.Ytgeldmhgbnamcaa.P Go.Proofs.YtgeldmhgbnamcaaW.PrintWords Go.Proofs.YtgeldmhgbnamcaaW.PrintLast Go.Proofs.YtgeldmhgbnamcaaW.PrintMore
open FW
set_option linter.unusedVariables false
set_option linter.unusedSimpArgs false
theorem plus1_eq {a b : Int} (ha : In a) (hb : In b) : marchlandref01_Plus.f a b = some (pl a b) := by
 unfold In N at ha hb
 have e : IntKind.u64.wrap (18446744073709551615 - a) = 18446744073709551615 - a := by rw [IntKind.wrap_u64]; omega
 unfold marchlandref01_Plus.f pl N
 rw [e]
 by_cases c : 18446744073709551615 ≤ a + b
 ·rw [if_pos (by omega), if_pos c]
 ·rw [if_neg (by omega), if_neg c, show IntKind.u64.wrap (a + b) = a + b by rw [IntKind.wrap_u64]; omega]
def ed9 (e : S90) : Ed := ⟨e.f0.toNat, e.f1.toNat, e.f2⟩
def WE9 (n : Nat) (E : List S90) : Prop := ∀ e ∈ E, 0 ≤ e.f0 ∧ e.f0 < n ∧ 0 ≤ e.f1 ∧ e.f1 < n ∧ In e.f2
theorem we9_ok {n : Nat} {E : List S90} (h : WE9 n E) : EOk n (E.map ed9) := by
 intro e he
 obtain ⟨x, hx, rfl⟩ := List.mem_map.1 he
 obtain ⟨h1, h2, h3, h4, h5⟩ := h x hx
 exact ⟨by show x.f0.toNat < n; omega, by show x.f1.toNat < n; omega, h5⟩
theorem rd90 (p : List S90) (x : S90) (q : List S90) {i : Int} (h : i = p.length) : rd_T90 (p ++ x :: q) i = x := by subst h; simp [rd_T90]
section
variable {n : Nat} {E : List S90} {I : List Int}
end
end Go.Proofs.Ytgeldmhgbnamcaa.Pure
end
section
/- ref05.Fix: one that may be, out of any graph. -/
namespace Go.Proofs.Ytgeldmhgbnamcaa.Pure
open Go.RowKit Go.Proofs.Ytgeldmhgbnamcaa.P Go.Proofs.YtgeldmhgbnamcaaW.PrintWords Go.Proofs.YtgeldmhgbnamcaaW.PrintLast Go.Proofs.YtgeldmhgbnamcaaW.PrintMore
open FW
set_option linter.unusedVariables false
set_option linter.unusedSimpArgs false
structure EGood (n : Nat) (E : List S90) : Prop where
 ok : WE9 n E
 back : ∀ e ∈ E, e.f1 ≤ e.f0 → 1 ≤ e.f2
structure IGood (n : Nat) (I : List Int) : Prop where
 ok : ∀ p ∈ I, 0 ≤ p ∧ p < n
 once : I.Nodup
theorem egood_snoc {n : Nat} {E : List S90} (h : EGood n E) {x : S90} (h0 : 0 ≤ x.f0 ∧ x.f0 < n ∧ 0 ≤ x.f1 ∧ x.f1 < n ∧ In x.f2) (h1 : x.f1 ≤ x.f0 → 1 ≤ x.f2) : EGood n (E ++ [x]) := by
 refine ⟨fun e he => ?_, fun e he => ?_⟩ <;> rcases List.mem_append.1 he with he | he
 ·exact h.ok e he
 ·rw [List.mem_singleton.1 he]; exact h0
 ·exact h.back e he
 ·rw [List.mem_singleton.1 he]; exact h1
theorem igood_snoc {n : Nat} {I : List Int} (h : IGood n I) {p : Int} (h0 : 0 ≤ p ∧ p < n) (h1 : p ∉ I) : IGood n (I ++ [p]) := by
 refine ⟨fun q hq => ?_, ?_⟩
 ·rcases List.mem_append.1 hq with hq | hq
  ·exact h.ok q hq
  ·rw [List.mem_singleton.1 hq]; exact h0
 ·rw [List.nodup_append]
  exact ⟨h.once, by simp, fun a ha b hb e => h1 (by rw [← List.mem_singleton.1 hb, ← e]; exact ha)⟩
theorem modn (p : Int) {n : Nat} (h : 1 ≤ n) (h6 : n ≤ 6) : IntKind.u64.wrap (n : Int) = (n : Int) ∧ 0 ≤ Int.tmod (IntKind.u64.wrap p) (n : Int) ∧ Int.tmod (IntKind.u64.wrap p) (n : Int) < n ∧ wrap64 (Int.tmod (IntKind.u64.wrap p) (n : Int)) = Int.tmod (IntKind.u64.wrap p) (n : Int) := by
 have hp : 0 ≤ IntKind.u64.wrap p := by rw [IntKind.wrap_u64]; omega
 have h1 := Int.tmod_nonneg (n : Int) hp
 have h2 := Int.tmod_lt_of_pos (IntKind.u64.wrap p) (show (0 : Int) < n by omega)
 exact ⟨by rw [IntKind.wrap_u64]; omega, h1, h2, by unfold wrap64; omega⟩
section
variable {n : Nat} {a0 : Int} {l1 : List S90} {l2 : List Int} {E : List S90}
theorem fix5_l2 {I : List Int} {i : Nat} (hi : i < 1000) (p : Int) (hl : I.length ≤ 1000) (R : Int × List S90 × List Int) (h : Ev (fun k => marchlandref05_Fix.l1 k ((i + 1 : Nat) : Int) a0 l1 l2 (n : Int) E (if p ∈ I then I else I ++ [p])) R) :
  ∀ rest pre : List Int, I = pre ++ rest → Ev (fun k => marchlandref05_Fix.l2 k (i : Int) p (decide (p ∈ pre)) (pre.length : Int) a0 l1 l2 (n : Int) E I) R
 | [], pre, hp => by
  rw [List.append_nil] at hp
  subst hp
  obtain ⟨K, h⟩ := h
  refine ⟨K + 1, fun k hk => ?_⟩
  obtain ⟨k, rfl⟩ : ∃ m, k = m + 1 := ⟨k - 1, by omega⟩
  have h := h k (by omega)
  dsimp only at h
  show marchlandref05_Fix.l2 (k + 1) _ _ _ _ _ _ _ _ _ _ = _
  rw [marchlandref05_Fix.l2, if_neg (by omega), w64 (by omega)]
  by_cases c : p ∈ I
  ·rw [if_pos c] at h; rw [if_pos (decide_eq_true c)]; exact h
  ·rw [if_neg c] at h; rw [if_neg (by simp [c]), if_pos (by omega)]; exact h
 | x :: rest, pre, hp => by
  obtain ⟨K, ih⟩ := fix5_l2 hi p hl R h rest (pre ++ [x]) (by rw [hp]; simp)
  have hlen : pre.length + 1 ≤ I.length := by rw [hp, List.length_append, List.length_cons]; omega
  have hr : rd I (pre.length : Int) = x := by rw [hp]; simp [rd]
  refine ⟨K + 1, fun k hk => ?_⟩
  obtain ⟨k, rfl⟩ : ∃ m, k = m + 1 := ⟨k - 1, by omega⟩
  have ih := ih k (by omega)
  simp only [List.length_append, List.length_cons, List.length_nil, Nat.zero_add] at ih
  show marchlandref05_Fix.l2 (k + 1) _ _ _ _ _ _ _ _ _ _ = _
  rw [marchlandref05_Fix.l2, if_pos (by omega), hr, w64 (by omega)]
  by_cases c : p ∈ pre
  ·rw [if_pos (decide_eq_true c)]
   rw [decide_eq_true (show p ∈ pre ++ [x] from List.mem_append_left _ c)] at ih; exact ih
  ·rw [if_neg (by simp [c]), if_pos (by omega)]
   have e : decide (p ∈ pre ++ [x]) = (x == p) := by
    by_cases d : x = p
    ·subst d; simp
    ·have : ¬ p = x := fun q => d q.symm
     simp [c, d, this]
   rw [e] at ih; exact ih
/-- the inputs -/
theorem fix5_l1 (hn : 1 ≤ n ∧ n ≤ 6) : ∀ d i : Nat, i + d = 8 → ∀ I : List Int, IGood n I → I.length ≤ i → ∃ I' : List Int, IGood n I' ∧ I' ≠ [] ∧ I'.length ≤ 8 ∧ Ev (fun k => marchlandref05_Fix.l1 k (i : Int) a0 l1 l2 (n : Int) E I) ((n : Int), E, I') := by
 have fin : ∀ (i : Nat), i ≤ 8 → ∀ I : List Int, IGood n I → I.length ≤ i → (¬ ((i : Int) < (l2.length : Int)) ∨ ¬ ((i : Int) < 8)) → ∃ I' : List Int, IGood n I' ∧ I' ≠ [] ∧ I'.length ≤ 8 ∧ Ev (fun k => marchlandref05_Fix.l1 k (i : Int) a0 l1 l2 (n : Int) E I) ((n : Int), E, I') := by
  intro i hi I hI hl hc
  have st : ∀ k, marchlandref05_Fix.l1 (k + 2) (i : Int) a0 l1 l2 (n : Int) E I = if (I.length : Int) = 0 then some ((n : Int), E, [0]) else some ((n : Int), E, I) := by
   intro k
   rw [marchlandref05_Fix.l1]
   by_cases c : (i : Int) < (l2.length : Int)
   ·rw [if_pos c, decide_eq_false (by omega), marchlandref05_Fix.j3, if_neg (by decide)]
   ·rw [if_neg c, marchlandref05_Fix.j3, if_neg (by decide)]
  by_cases c : (I.length : Int) = 0
  ·refine ⟨[0], ⟨fun p hp => ?_, by simp⟩, by simp, by simp, 2, fun k hk => ?_⟩
   ·rw [List.mem_singleton.1 hp]; omega
   ·obtain ⟨k, rfl⟩ : ∃ m, k = m + 2 := ⟨k - 2, by omega⟩
    exact (st k).trans (if_pos c)
  ·refine ⟨I, hI, fun e => c (by rw [e]; rfl), by omega, 2, fun k hk => ?_⟩
   obtain ⟨k, rfl⟩ : ∃ m, k = m + 2 := ⟨k - 2, by omega⟩
   exact (st k).trans (if_neg c)
 intro d
 induction d with
 | zero => intro i hi I hI hl; exact fin i (by omega) I hI hl (Or.inr (by omega))
 | succ d IH =>
  intro i hi I hI hl
  by_cases c : (i : Int) < (l2.length : Int)
  ·obtain ⟨m1, m2, m3, m4⟩ := modn (rd l2 (i : Int)) hn.1 hn.2
   generalize hp : Int.tmod (IntKind.u64.wrap (rd l2 (i : Int))) (n : Int) = p at m2 m3 m4
   have hJ : IGood n (if p ∈ I then I else I ++ [p]) ∧ (if p ∈ I then I else I ++ [p]).length ≤ i + 1 := by
    by_cases q : p ∈ I
    ·rw [if_pos q]; exact ⟨hI, by omega⟩
    ·rw [if_neg q]; exact ⟨igood_snoc hI ⟨m2, m3⟩ q, by simp; omega⟩
   obtain ⟨I', g1, g2, g3, g4⟩ := IH (i + 1) (by omega) _ hJ.1 hJ.2
   refine ⟨I', g1, g2, g3, ?_⟩
   obtain ⟨K, h2⟩ := fix5_l2 (by omega) p (by omega) _ g4 I [] rfl
   refine ⟨K + 2, fun k hk => ?_⟩
   obtain ⟨k, rfl⟩ : ∃ m, k = m + 2 := ⟨k - 2, by omega⟩
   show marchlandref05_Fix.l1 (k + 2) _ _ _ _ _ _ _ = _
   rw [marchlandref05_Fix.l1, if_pos c, decide_eq_true (by omega), marchlandref05_Fix.j3, if_pos rfl, if_pos (by omega), if_pos c, m1, if_neg (by omega), hp, m4]
   exact h2 k (by omega)
  ·exact fin i (by omega) I hI hl (Or.inl c)
/-- the edges -/
theorem fix5_l0 (hn : 1 ≤ n ∧ n ≤ 6) (hw : ∀ x ∈ l1, In x.f2) : ∀ d i : Nat, i + d = 12 → ∀ E : List S90, EGood n E → E.length ≤ i → ∃ (E' : List S90) (I' : List Int), EGood n E' ∧ E'.length ≤ 12 ∧ IGood n I' ∧ I' ≠ [] ∧ I'.length ≤ 8 ∧ Ev (fun k => marchlandref05_Fix.l0 k (i : Int) a0 l1 l2 (n : Int) E) ((n : Int), E', I') := by
 have fin : ∀ (i : Nat), i ≤ 12 → ∀ E : List S90, EGood n E → E.length ≤ i → (¬ ((i : Int) < (l1.length : Int)) ∨ ¬ ((i : Int) < 12)) → ∃ (E' : List S90) (I' : List Int), EGood n E' ∧ E'.length ≤ 12 ∧ IGood n I' ∧ I' ≠ [] ∧ I'.length ≤ 8 ∧ Ev (fun k => marchlandref05_Fix.l0 k (i : Int) a0 l1 l2 (n : Int) E) ((n : Int), E', I') := by
  intro i hi E hE hl hc
  obtain ⟨I', g1, g2, g3, K, g4⟩ := fix5_l1 (a0 := a0) (l1 := l1) (l2 := l2) (E := E) hn 8 0 rfl [] ⟨by simp, by simp⟩ (by simp)
  refine ⟨E, I', hE, by omega, g1, g2, g3, K + 2, fun k hk => ?_⟩
  obtain ⟨k, rfl⟩ : ∃ m, k = m + 2 := ⟨k - 2, by omega⟩
  show marchlandref05_Fix.l0 (k + 2) _ _ _ _ _ _ = _
  rw [marchlandref05_Fix.l0]
  by_cases c : (i : Int) < (l1.length : Int)
  ·rw [if_pos c, decide_eq_false (by omega), marchlandref05_Fix.j1, if_neg (by decide)]; exact g4 k (by omega)
  ·rw [if_neg c, marchlandref05_Fix.j1, if_neg (by decide)]; exact g4 k (by omega)
 intro d
 induction d with
 | zero => intro i hi E hE hl; exact fin i (by omega) E hE hl (Or.inr (by omega))
 | succ d IH =>
  intro i hi E hE hl
  by_cases c : (i : Int) < (l1.length : Int)
  ·have hx : In (rd_T90 l1 (i : Int)).f2 := by
    unfold rd_T90
    rw [Int.toNat_natCast, List.getD_eq_getElem?_getD, List.getElem?_eq_getElem (by omega), Option.getD_some]
    exact hw _ (List.getElem_mem _)
   generalize hxe : rd_T90 l1 (i : Int) = x at hx
   obtain ⟨m1, a2, a3, a4⟩ := modn x.f0 hn.1 hn.2
   obtain ⟨_, b2, b3, b4⟩ := modn x.f1 hn.1 hn.2
   have step : ∀ y : S90, EGood n (E ++ [y]) → (∀ k, marchlandref05_Fix.j1 (k + 1) (i : Int) true a0 l1 l2 (n : Int) E = marchlandref05_Fix.l0 k (((i + 1 : Nat)) : Int) a0 l1 l2 (n : Int) (E ++ [y])) → ∃ (E' : List S90) (I' : List Int), EGood n E' ∧ E'.length ≤ 12 ∧ IGood n I' ∧ I' ≠ [] ∧ I'.length ≤ 8 ∧ Ev (fun k => marchlandref05_Fix.l0 k (i : Int) a0 l1 l2 (n : Int) E) ((n : Int), E', I') := by
    intro y hy hs
    obtain ⟨E', I', g1, g2, g3, g4, g5, K, g6⟩ := IH (i + 1) (by omega) (E ++ [y]) hy (by simp; omega)
    refine ⟨E', I', g1, g2, g3, g4, g5, K + 2, fun k hk => ?_⟩
    obtain ⟨k, rfl⟩ : ∃ m, k = m + 2 := ⟨k - 2, by omega⟩
    show marchlandref05_Fix.l0 (k + 2) _ _ _ _ _ _ = _
    rw [marchlandref05_Fix.l0, if_pos c, decide_eq_true (by omega), hs]
    exact g6 k (by omega)
   by_cases c1 : Int.tmod (IntKind.u64.wrap x.f1) (n : Int) ≤ Int.tmod (IntKind.u64.wrap x.f0) (n : Int)
   ·by_cases c2 : x.f2 = 0
    ·refine step ⟨Int.tmod (IntKind.u64.wrap x.f0) (n : Int), Int.tmod (IntKind.u64.wrap x.f1) (n : Int), 1⟩ (egood_snoc hE ⟨a2, a3, b2, b3, by show In 1; unfold In N; omega⟩ (fun _ => by show (1 : Int) ≤ 1; omega)) (fun k => ?_)
     rw [marchlandref05_Fix.j1, if_pos rfl, if_pos (by omega), if_pos c, m1, if_neg (by omega), hxe, a4, b4, if_pos c1, if_pos c2, if_pos (by omega), w64 (by omega)]
    ·refine step ⟨Int.tmod (IntKind.u64.wrap x.f0) (n : Int), Int.tmod (IntKind.u64.wrap x.f1) (n : Int), x.f2⟩ (egood_snoc hE ⟨a2, a3, b2, b3, hx⟩ (fun _ => by show (1 : Int) ≤ x.f2; have := hx.1; omega)) (fun k => ?_)
     rw [marchlandref05_Fix.j1, if_pos rfl, if_pos (by omega), if_pos c, m1, if_neg (by omega), hxe, a4, b4, if_pos c1, if_neg c2, if_pos (by omega), w64 (by omega)]
   ·refine step ⟨Int.tmod (IntKind.u64.wrap x.f0) (n : Int), Int.tmod (IntKind.u64.wrap x.f1) (n : Int), x.f2⟩ (egood_snoc hE ⟨a2, a3, b2, b3, hx⟩ (fun q => absurd q c1)) (fun k => ?_)
    rw [marchlandref05_Fix.j1, if_pos rfl, if_pos (by omega), if_pos c, m1, if_neg (by omega), hxe, a4, b4, if_neg c1, if_pos (by omega), w64 (by omega)]
  ·exact fin i (by omega) E hE hl (Or.inl c)
end
/-- REF05.FIX. -/
theorem fix5_ev (a0 : Int) (l1 : List S90) (l2 : List Int) (hw : ∀ x ∈ l1, In x.f2) : ∃ (n : Nat) (E : List S90) (I : List Int), (1 ≤ n ∧ n ≤ 6) ∧ EGood n E ∧ E.length ≤ 12 ∧ IGood n I ∧ I ≠ [] ∧ I.length ≤ 8 ∧ Ev (fun k => marchlandref05_Fix.f k a0 l1 l2) ((n : Int), E, I) := by
 obtain ⟨m1, a2, a3, a4⟩ := modn a0 (n := 6) (by omega) (by omega)
 have e : wrap64 (1 + wrap64 (Int.tmod (IntKind.u64.wrap a0) 6)) = (((1 + Int.tmod (IntKind.u64.wrap a0) 6).toNat : Nat) : Int) := by
  have : wrap64 (Int.tmod (IntKind.u64.wrap a0) 6) = Int.tmod (IntKind.u64.wrap a0) 6 := a4
  rw [this]
  have h1 : 0 ≤ Int.tmod (IntKind.u64.wrap a0) 6 := a2
  have h2 : Int.tmod (IntKind.u64.wrap a0) 6 < 6 := a3
  unfold wrap64; omega
 have h1 : 0 ≤ Int.tmod (IntKind.u64.wrap a0) 6 := a2
 have h2 : Int.tmod (IntKind.u64.wrap a0) 6 < 6 := a3
 generalize (1 + Int.tmod (IntKind.u64.wrap a0) 6).toNat = n at e
 have hn : 1 ≤ n ∧ n ≤ 6 := by
  have : wrap64 (1 + wrap64 (Int.tmod (IntKind.u64.wrap a0) 6)) = 1 + Int.tmod (IntKind.u64.wrap a0) 6 := by
   rw [show wrap64 (Int.tmod (IntKind.u64.wrap a0) 6) = Int.tmod (IntKind.u64.wrap a0) 6 from a4]; unfold wrap64; omega
  omega
 obtain ⟨E, I, g1, g2, g3, g4, g5, K, g6⟩ := fix5_l0 (a0 := a0) (l1 := l1) (l2 := l2) hn hw 12 0 rfl [] ⟨(fun e he => by simp at he), (fun e he => by simp at he)⟩ (by simp)
 refine ⟨n, E, I, hn, g1, g2, g3, g4, g5, K, fun k hk => ?_⟩
 show marchlandref05_Fix.f k a0 l1 l2 = _
 unfold marchlandref05_Fix.f
 rw [e]
 exact g6 k hk
end Go.Proofs.Ytgeldmhgbnamcaa.Pure
end
section
/- graph.Paths of a graph that may be: the square of the shortest ways; law05.To, law05.Rows, ref06.Same. -/
namespace Go.Proofs.Ytgeldmhgbnamcaa.Pure
open Go.RowKit Go.Proofs.Ytgeldmhgbnamcaa.P Go.Proofs.YtgeldmhgbnamcaaW.PrintWords Go.Proofs.YtgeldmhgbnamcaaW.PrintLast Go.Proofs.YtgeldmhgbnamcaaW.PrintMore
open FW
set_option linter.unusedVariables false
set_option linter.unusedSimpArgs false
theorem Ev.s {α : Type} {F G : Nat → Option α} {r : α} (h : ∀ k, F (k + 1) = G k) (g : Ev G r) : Ev F r := by
 obtain ⟨K, g⟩ := g
 refine ⟨K + 1, fun k hk => ?_⟩
 obtain ⟨k, rfl⟩ : ∃ m, k = m + 1 := ⟨k - 1, by omega⟩
 rw [h]; exact g k (by omega)
theorem Ev.o {α : Type} {F : Nat → Option α} {r : α} (h : ∀ k, F (k + 1) = some r) : Ev F r := by
 refine ⟨1, fun k hk => ?_⟩
 obtain ⟨k, rfl⟩ : ∃ m, k = m + 1 := ⟨k - 1, by omega⟩
 exact h k
def c95 (x : S90) : S95 := ⟨x.f0, x.f1, x.f2⟩
theorem ed_c95 (E : List S90) : (E.map c95).map ed = E.map ed9 := by rw [List.map_map]; rfl
theorem we_c95 {n : Nat} {E : List S90} (h : WE9 n E) : WE n (E.map c95) := by
 intro e he
 obtain ⟨x, hx, rfl⟩ := List.mem_map.1 he
 exact h x hx
section
variable {n : Nat} {E : List S90} {I : List Int}
theorem to5_l0 (hl : E.length ≤ 1000) : ∀ (rest pre : List S90), E = pre ++ rest → Ev (fun k => marchlandlaw05_To.l0 k (pre.length : Int) (n : Int) E I (n : Int) (pre.map c95) I) ((n : Int), E.map c95, I)
 | [], pre, h => by
  rw [List.append_nil] at h
  subst h
  refine Ev.o (fun k => ?_)
  show marchlandlaw05_To.l0 (k + 1) _ _ _ _ _ _ _ = _
  rw [marchlandlaw05_To.l0, if_neg (by omega)]
 | x :: rest, pre, h => by
  have ih := to5_l0 hl rest (pre ++ [x]) (by rw [h]; simp)
  have hlen : pre.length + 1 ≤ E.length := by rw [h, List.length_append, List.length_cons]; omega
  have hr : rd_T90 E (pre.length : Int) = x := by rw [h]; exact rd90 pre x rest rfl
  rw [List.map_append, List.length_append] at ih
  simp only [List.map_cons, List.map_nil, List.length_cons, List.length_nil, Nat.zero_add] at ih
  refine Ev.s (fun k => ?_) ih
  show marchlandlaw05_To.l0 (k + 1) _ _ _ _ _ _ _ = _
  rw [marchlandlaw05_To.l0, if_pos (by omega), if_pos (by omega), if_pos (by rw [List.length_map]; omega), hr, w64 (by omega)]
  rfl
theorem to5_ev (hl : E.length ≤ 1000) (hI : I.length ≤ 1000) : Ev (fun k => marchlandlaw05_To.f k (n : Int) E I) ((n : Int), E.map c95, I) := by
 have h := to5_l0 (n := n) (I := I) hl E [] rfl
 refine Ev.id h (fun k => ?_)
 show _ = marchlandlaw05_To.f k (n : Int) E I
 unfold marchlandlaw05_To.f
 rw [Option.bind_some, if_pos (by simp; omega)]
 rfl
theorem has_ok {E' : List S95} {p : Int} (h0 : 0 ≤ p) (h1 : p < n) : graph_Graph_has.f (n : Int) E' I p = some true := by
 unfold graph_Graph_has.f
 rw [if_pos h0, decide_eq_true h1]
theorem edges_l0 {E : List S95} (hE : WE n E) (hl : E.length ≤ 1000) : ∀ d i : Nat, i + d = E.length → Ev (fun k => graph_Graph_edges.l0 k E (E.length : Int) (i : Int) (n : Int) E I) none
 | 0, i, h => by
  refine Ev.o (fun k => ?_)
  show graph_Graph_edges.l0 (k + 1) _ _ _ _ _ _ = _
  rw [graph_Graph_edges.l0, if_neg (by omega)]
 | d + 1, i, h => by
  have ih := edges_l0 hE hl d (i + 1) (by omega)
  have hm : rd_T95 E (i : Int) ∈ E := by
   unfold rd_T95
   rw [Int.toNat_natCast, List.getD_eq_getElem?_getD, List.getElem?_eq_getElem (by omega), Option.getD_some]
   exact List.getElem_mem _
  obtain ⟨x0, x1, x2, x3, x4⟩ := hE _ hm
  refine Ev.s (fun k => ?_) ih
  show graph_Graph_edges.l0 (k + 1) _ _ _ _ _ _ = _
  rw [graph_Graph_edges.l0, if_pos (by omega), if_pos (by omega), if_pos (by omega), has_ok x0 x1, Option.bind_some, if_pos rfl, has_ok x2 x3, Option.bind_some, if_pos rfl, w64 (by omega)]
theorem index_none {p : Int} (L : List Int) (hl : L.length ≤ 1000) (hp : p ∉ L) : ∀ d i : Nat, i + d = L.length → Ev (fun k => slices_Index_int_int.l0 k L p (L.length : Int) (i : Int)) (-1)
 | 0, i, h => by
  refine Ev.o (fun k => ?_)
  show slices_Index_int_int.l0 (k + 1) _ _ _ _ = _
  rw [slices_Index_int_int.l0, if_neg (by omega)]
 | d + 1, i, h => by
  have ih := index_none L hl hp d (i + 1) (by omega)
  have hm : rd L (i : Int) ∈ L := by
   unfold rd
   rw [Int.toNat_natCast, List.getD_eq_getElem?_getD, List.getElem?_eq_getElem (by omega), Option.getD_some]
   exact List.getElem_mem _
  refine Ev.s (fun k => ?_) ih
  show slices_Index_int_int.l0 (k + 1) _ _ _ _ = _
  rw [slices_Index_int_int.l0, if_pos (by omega), if_pos (by omega), if_pos (by omega), if_neg (fun q => hp (by rw [q]; exact hm)), w64 (by omega)]
theorem contains_none {p : Int} (L : List Int) (hl : L.length ≤ 1000) (hp : p ∉ L) : Ev (fun k => slices_Contains_int_int.f k L p) false := by
 obtain ⟨K, h⟩ := index_none L hl hp L.length 0 (by omega)
 refine ⟨K, fun k hk => ?_⟩
 show slices_Contains_int_int.f k L p = _
 unfold slices_Contains_int_int.f slices_Index_int_int.f
 have h := h k hk
 dsimp only at h
 rw [show ((0 : Nat) : Int) = 0 from rfl] at h
 rw [h]; rfl
theorem inputs_l0 {E : List S95} (hI : IGood n I) (hl : I.length ≤ 1000) : ∀ d i : Nat, i + d = I.length → Ev (fun k => graph_Graph_inputs.l0 k I (I.length : Int) (i : Int) (n : Int) E I) none
 | 0, i, h => by
  refine Ev.o (fun k => ?_)
  show graph_Graph_inputs.l0 (k + 1) _ _ _ _ _ _ = _
  rw [graph_Graph_inputs.l0, if_neg (by omega)]
 | d + 1, i, h => by
  obtain ⟨K1, ih⟩ := inputs_l0 (E := E) hI hl d (i + 1) (by omega)
  have hlt : i < I.length := by omega
  have hg : rd I (i : Int) = I[i] := by unfold rd; rw [Int.toNat_natCast, List.getD_eq_getElem?_getD, List.getElem?_eq_getElem hlt, Option.getD_some]
  have hb := hI.ok (I[i]) (List.getElem_mem _)
  have hn : I[i] ∉ I.take i := by
   intro hm
   obtain ⟨j, hj, e⟩ := List.getElem_of_mem hm
   rw [List.length_take] at hj
   rw [List.getElem_take] at e
   have := (List.getElem_inj hI.once).1 e
   omega
  obtain ⟨K2, hc⟩ := contains_none (I.take i) (by rw [List.length_take]; omega) hn
  refine ⟨K1 + K2 + 1, fun k hk => ?_⟩
  obtain ⟨k, rfl⟩ : ∃ m, k = m + 1 := ⟨k - 1, by omega⟩
  have ih := ih k (by omega); have hc := hc k (by omega); dsimp only at ih hc
  show graph_Graph_inputs.l0 (k + 1) _ _ _ _ _ _ = _
  rw [graph_Graph_inputs.l0, if_pos (by omega), if_pos (by omega), if_pos (by omega), hg, has_ok hb.1 hb.2, Option.bind_some, if_pos rfl, if_pos (by omega), Int.toNat_natCast, hc, Option.bind_some, if_neg (by decide), w64 (by omega)]
  exact ih
theorem cycle_l0 {E : List S95} {W : Mat} (hE : WE n E) (hl : E.length ≤ 1000) (hW : ∀ e ∈ E, e.f2 = 0 → W e.f1.toNat e.f0.toNat ≠ 0) : ∀ d i : Nat, i + d = E.length → Ev (fun k => graph_Graph_cycle.l0 k (mat n W) (-1) E (E.length : Int) (i : Int)) (-1)
 | 0, i, h => by
  refine Ev.o (fun k => ?_)
  show graph_Graph_cycle.l0 (k + 1) _ _ _ _ _ = _
  rw [graph_Graph_cycle.l0, if_neg (by omega)]
 | d + 1, i, h => by
  have ih := cycle_l0 hE hl hW d (i + 1) (by omega)
  have hm : rd_T95 E (i : Int) ∈ E := by
   unfold rd_T95
   rw [Int.toNat_natCast, List.getD_eq_getElem?_getD, List.getElem?_eq_getElem (by omega), Option.getD_some]
   exact List.getElem_mem _
  generalize hx : rd_T95 E (i : Int) = x at hm
  obtain ⟨x0, x1, x2, x3, x4⟩ := hE _ hm
  have hw := hW x hm
  have f0 : x.f0 = ((x.f0.toNat : Nat) : Int) := by omega
  have f1 : x.f1 = ((x.f1.toNat : Nat) : Int) := by omega
  have r1 : rd_L7 (mat n W) x.f1 = Ls n (W x.f1.toNat) := by rw [f1]; exact mat_row n W (by omega)
  have r2 : rd (Ls n (W x.f1.toNat)) x.f0 = W x.f1.toNat x.f0.toNat := by rw [f0]; exact ls_rd n _ (by omega)
  refine Ev.s (fun k => ?_) ih
  show graph_Graph_cycle.l0 (k + 1) _ _ _ _ _ = _
  rw [graph_Graph_cycle.l0, if_pos (by omega), if_pos (by omega), if_pos (by omega), hx, w64 (by omega)]
  by_cases c : x.f2 = 0
  ·rw [if_pos c, if_pos x2, mat_len, if_pos x3, if_pos x0, r1, ls_len, if_pos x1, r2, if_neg (hw c)]
  ·rw [if_neg c]
/-- GRAPH.PATHS of a graph that may be. -/
theorem paths_ev (hn : 1 ≤ n ∧ n ≤ 6) (hE : EGood n E) (hl : E.length ≤ 12) (hI : IGood n I) (hI0 : I ≠ []) (hI8 : I.length ≤ 8) : Ev (fun k => graph_Paths.f k (n : Int) (E.map c95) I) (mat n (wk (E.map ed9) n)) := by
 have hW := we_c95 hE.ok
 have hll : (E.map c95).length ≤ 12 := by rw [List.length_map]; exact hl
 obtain ⟨K1, h1⟩ := ways_ev I hW (by omega) (by omega)
 obtain ⟨K2, h2⟩ := edges_l0 (I := I) hW (by omega) (E.map c95).length 0 (by omega)
 obtain ⟨K3, h3⟩ := inputs_l0 (E := E.map c95) hI (by omega) I.length 0 (by omega)
 rw [ed_c95] at h1
 obtain ⟨K4, h4⟩ := cycle_l0 (W := wk (E.map ed9) n) hW (by omega) (fun e he h0 => by
  obtain ⟨x, hx, rfl⟩ := List.mem_map.1 he
  obtain ⟨x0, x1, x2, x3, x4⟩ := hE.ok x hx
  have hb := hE.back x hx
  have h0 : x.f2 = 0 := h0
  show wk (E.map ed9) n x.f1.toNat x.f0.toNat ≠ 0
  have hlt : x.f0.toNat < x.f1.toNat := by
   rcases Int.lt_or_le x.f0 x.f1 with q | q
   ·omega
   ·have := hb q; omega
  exact no_round (we9_ok hE.ok) (fun e he hq => by
   obtain ⟨y, hy, rfl⟩ := List.mem_map.1 he
   obtain ⟨y0, y1, y2, y3, y4⟩ := hE.ok y hy
   have hq : y.f1.toNat ≤ y.f0.toNat := hq
   exact hE.back y hy (by omega)) (by omega) (by omega) hlt) (E.map c95).length 0 (by omega)
 have hpos : 1 ≤ I.length := by cases I with | nil => exact absurd rfl hI0 | cons a l => simp
 refine ⟨K1 + K2 + K3 + K4 + 3, fun k hk => ?_⟩
 obtain ⟨k, rfl⟩ : ∃ m, k = m + 2 := ⟨k - 2, by omega⟩
 have h1a := h1 (k + 1) (by omega); have h1b := h1 (k + 2) (by omega); have h2 := h2 (k + 1) (by omega); have h3 := h3 k (by omega); have h4 := h4 (k + 1) (by omega)
 dsimp only at h1a h1b h2 h3 h4
 have e2 : graph_Graph_edges.f (k + 1) (n : Int) (E.map c95) I = some none := h2
 have e3 : graph_Graph_inputs.f (k + 1) (n : Int) (E.map c95) I = some none := by
  unfold graph_Graph_inputs.f
  rw [if_neg (by omega), graph_Graph_inputs.j0, if_neg (by simp; omega)]
  exact h3
 have e4 : graph_Graph_cycle.f (k + 1) (n : Int) (E.map c95) I (mat n (wk (E.map ed9) n)) = some (-1) := h4
 have ec : graph_Check.f (k + 2) (n : Int) (E.map c95) I = some none := by
  unfold graph_Check.f
  rw [if_neg (by omega), decide_eq_false (by omega), graph_Check.j0, if_neg (by decide), if_neg (by omega), e2, Option.bind_some, if_pos (show (none : Option Int).isNone = true from rfl), e3, Option.bind_some, if_pos (show (none : Option Int).isNone = true from rfl), h1a, Option.bind_some, e4, Option.bind_some, if_neg (by decide)]
 show graph_Paths.f (k + 2) _ _ _ = _
 unfold graph_Paths.f
 rw [ec, Option.bind_some, if_pos (show (none : Option Int).isNone = true from rfl), h1b, Option.bind_some]
end
end Go.Proofs.Ytgeldmhgbnamcaa.Pure
end
section
-- Printed by the session's own turn of the print (wip/tools/print2.sh): some callees are proved by hand.
namespace Go.Proofs.Ytgeldmhgbnamcaa.P
open Go.RowKit Go.Proofs.YtgeldmhgbnamcaaW.PrintWords Go.Proofs.YtgeldmhgbnamcaaW.PrintLast Go.Proofs.YtgeldmhgbnamcaaW.PrintMore
attribute [local go_sem] max2_int min2_int max_two min_two max_three min_three max_four min_four   -- for this text's walks alone
set_option linter.unusedVariables false
set_option linter.unusedSimpArgs false
theorem eqA50 (d : Nat) (w : World) (x0 y0 : Int) (x1 y1 : Int) (x2 y2 : Int) :
  (Op.equalIn (d + 2) 50 (.agg #[.int .i64 x0, .int .u64 x1, .int .i64 x2]) (.agg #[.int .i64 y0, .int .u64 y1, .int .i64 y2])).run Try.prog w = .ok (x0 == y0 && (x1 == y1 && (x2 == y2))) w := by
 refine eqA_of Try.underlying50 (by kernel_rfl) ?_
 refine eqf_cons (by rfl) (by go_simp; rfl) (by go_simp; rfl) (by go_simp) ?_
 refine eqf_cons (by rfl) (by go_simp; rfl) (by go_simp; rfl) (by go_simp) ?_
 exact eqf_last (by rfl) (by go_simp; rfl) (by go_simp; rfl) (by go_simp)
end Go.Proofs.Ytgeldmhgbnamcaa.P
end
section
/- Plain laws of bags, first part: Concat, Merge, Apply, Least, Right; the reference's Fix of bags. -/
namespace Go.Proofs.Ytgeldmhgbnamcaa.Pure
open Go.RowKit Go.Proofs.Ytgeldmhgbnamcaa.P Go.Proofs.YtgeldmhgbnamcaaW.PrintWords Go.Proofs.YtgeldmhgbnamcaaW.PrintLast
set_option linter.unusedVariables false
set_option linter.unusedSimpArgs false
/-! ### Least -/
def leastv (p : Int) : List S50 → Int
 | [] => 18446744073709551615
 | x :: r => if x.f0 = p then x.f1 else leastv p r
theorem least_l0 (p : Int) (X : List S50) (hl : X.length ≤ 8000000000000000000) : ∀ (r pre : List S50), X = pre ++ r → Ev (fun k => bag_Least.l0 k p X (X.length : Int) (pre.length : Int)) (leastv p r) := by
 intro r
 induction r with
 | nil =>
  intro pre e
  refine ⟨1, fun k hk => ?_⟩
  obtain ⟨k, rfl⟩ : ∃ m, k = m + 1 := ⟨k - 1, by omega⟩
  show bag_Least.l0 (k + 1) _ _ _ _ = _
  rw [bag_Least.l0, if_neg (by subst e; simp)]
  rfl
 | cons x r ih =>
  intro pre e
  obtain ⟨K, h⟩ := ih (pre ++ [x]) (by simp [e])
  have ll : X.length = pre.length + (r.length + 1) := by rw [e]; simp
  have e1 : rd_T50 X (pre.length : Int) = x := by rw [e]; exact rd5 _ _ _ rfl
  have ew : wrap64 ((pre.length : Int) + 1) = ((pre ++ [x]).length : Int) := by rw [w64s (by omega)]; simp
  refine ⟨K + 1, fun k hk => ?_⟩
  obtain ⟨k, rfl⟩ : ∃ m, k = m + 1 := ⟨k - 1, by omega⟩
  have h := h k (by omega); dsimp only at h
  show bag_Least.l0 (k + 1) _ _ _ _ = _
  rw [bag_Least.l0, if_pos (by omega), if_pos (by omega), if_pos (by omega), e1, ew, h]
  simp only [leastv]
  split <;> rfl
theorem least_ev (X : List S50) (hl : X.length ≤ 8000000000000000000) (p : Int) : Ev (fun k => bag_Least.f k X p) (leastv p X) := least_l0 p X hl X [] rfl
/-! ### the reference's Fix of bags -/
end Go.Proofs.Ytgeldmhgbnamcaa.Pure
end
section
/- front.Of and ref06.Of: the least of what the ways take. -/
namespace Go.Proofs.Ytgeldmhgbnamcaa.Pure
open Go.RowKit Go.Proofs.Ytgeldmhgbnamcaa.P Go.Proofs.YtgeldmhgbnamcaaW.PrintWords Go.Proofs.YtgeldmhgbnamcaaW.PrintLast Go.Proofs.YtgeldmhgbnamcaaW.PrintMore
open FW
set_option linter.unusedVariables false
set_option linter.unusedSimpArgs false
theorem leastm_le {p : Int} : ∀ {X : List S50}, Str X → ∀ x ∈ X, x.f0 = p → leastv p X ≤ x.f1
 | y :: X, hs, x, hx, h => by
  obtain ⟨h1, h2⟩ := List.pairwise_cons.1 hs
  simp only [leastv]
  by_cases c : y.f0 = p
  ·rw [if_pos c]
   rcases List.mem_cons.1 hx with rfl | hx
   ·exact Int.le_refl _
   ·have := h1 x hx; unfold kl at this; omega
  ·rw [if_neg c]
   rcases List.mem_cons.1 hx with rfl | hx
   ·exact absurd h c
   ·exact leastm_le h2 x hx h
theorem leastm_mem (p : Int) : ∀ X : List S50, leastv p X = N ∨ ∃ x ∈ X, x.f0 = p ∧ leastv p X = x.f1
 | [] => Or.inl rfl
 | y :: X => by
  simp only [leastv]
  by_cases c : y.f0 = p
  ·rw [if_pos c]; exact Or.inr ⟨y, List.mem_cons_self, c, rfl⟩
  ·rw [if_neg c]
   rcases leastm_mem p X with h | ⟨x, hx, h1, h2⟩
   ·exact Or.inl h
   ·exact Or.inr ⟨x, List.mem_cons_of_mem _ hx, h1, h2⟩
theorem leastm_in {X : List S50} (h : ∀ x ∈ X, In x.f1) (p : Int) : In (leastv p X) := by
 rcases leastm_mem p X with e | ⟨x, hx, _, e⟩
 ·rw [e]; exact in_N
 ·rw [e]; exact h x hx
def fr (b : List S50) (W : Mat) : Nat → Nat → Int
 | 0, _ => N
 | f + 1, c => min (fr b W f c) (pl (leastv (f : Int) b) (W f c))
def rstep (n : Nat) (W : Mat) (p : Nat) (acc : Int) (x : S50) : Int := if 0 ≤ x.f0 ∧ x.f0 < n then min acc (pl x.f1 (W x.f0.toNat p)) else acc
theorem le_fr (b : List S50) (W : Mat) (z : Int) (c : Nat) : ∀ f, z ≤ fr b W f c ↔ z ≤ N ∧ ∀ g, g < f → z ≤ pl (leastv (g : Int) b) (W g c)
 | 0 => ⟨fun h => ⟨h, fun g hg => by omega⟩, fun h => h.1⟩
 | f + 1 => by
  have ih := le_fr b W z c f
  show z ≤ min _ _ ↔ _
  constructor
  ·intro h
   obtain ⟨h1, h2⟩ := ih.1 (by omega)
   refine ⟨h1, fun g hg => ?_⟩
   by_cases e : g = f
   ·subst e; omega
   ·exact h2 g (by omega)
  ·rintro ⟨h1, h2⟩
   have h3 := ih.2 ⟨h1, fun g hg => h2 g (by omega)⟩
   have h4 := h2 f (by omega)
   omega
theorem le_rstep (n : Nat) (W : Mat) (p : Nat) (z : Int) : ∀ (b : List S50) (acc : Int), z ≤ b.foldl (rstep n W p) acc ↔ z ≤ acc ∧ ∀ x ∈ b, 0 ≤ x.f0 → x.f0 < n → z ≤ pl x.f1 (W x.f0.toNat p)
 | [], acc => ⟨fun h => ⟨h, fun x hx => by cases hx⟩, fun h => h.1⟩
 | y :: b, acc => by
  rw [List.foldl_cons, le_rstep n W p z b (rstep n W p acc y)]
  unfold rstep
  constructor
  ·rintro ⟨h1, h2⟩
   refine ⟨by split at h1 <;> omega, fun x hx a0 a1 => ?_⟩
   rcases List.mem_cons.1 hx with rfl | hx
   ·rw [if_pos ⟨a0, a1⟩] at h1; omega
   ·exact h2 x hx a0 a1
  ·rintro ⟨h1, h2⟩
   refine ⟨?_, fun x hx => h2 x (List.mem_cons_of_mem _ hx)⟩
   split
   next c => have := h2 y List.mem_cons_self c.1 c.2; omega
   next c => exact h1
theorem fr_eq {b : List S50} (hs : Str b) (hb : ∀ x ∈ b, In x.f1) {n : Nat} {W : Mat} (hW : ∀ i j, i < n → j < n → In (W i j)) {c : Nat} (hc : c < n) : fr b W n c = b.foldl (rstep n W c) N := by
 have key : ∀ z, z ≤ fr b W n c ↔ z ≤ b.foldl (rstep n W c) N := by
  intro z
  rw [le_fr, le_rstep]
  constructor
  ·rintro ⟨h1, h2⟩
   refine ⟨h1, fun x hx a0 a1 => ?_⟩
   have e : x.f0 = ((x.f0.toNat : Nat) : Int) := by omega
   exact Int.le_trans (h2 x.f0.toNat (by omega)) (pl_mono (leastm_le hs x hx e) (Int.le_refl _))
  ·rintro ⟨h1, h2⟩
   refine ⟨h1, fun g hg => ?_⟩
   rcases leastm_mem (g : Int) b with e | ⟨x, hx, e0, e1⟩
   ·rw [e]
    have := le_pl in_N (hW g c hg hc)
    omega
   ·rw [e1]
    have h := h2 x hx (by omega) (by omega)
    rwa [show x.f0.toNat = g by omega] at h
 have h1 := (key (fr b W n c)).1 (Int.le_refl _)
 have h2 := (key (b.foldl (rstep n W c) N)).2 (Int.le_refl _)
 omega
section
variable {n : Nat} {W : Mat} {b : List S50}
theorem of_l1 (hn : n ≤ 1000) (hb : ∀ x ∈ b, In x.f1) (hW : ∀ i j, i < n → j < n → In (W i j)) {f : Nat} (hf : f < n) (R : List Int) (h : Ev (fun k => front_Of.l0 k (mat n W) b (Ls n (fr b W (f + 1))) (n : Int) ((f + 1 : Nat) : Int)) R) :
  ∀ d j : Nat, j + d = n → Ev (fun k => front_Of.l1 k (mat n W) b (Ls n fun c => if c < j then fr b W (f + 1) c else fr b W f c) (leastv (f : Int) b) (n : Int) (f : Int) (Ls n (W f)) (n : Int) (j : Int)) R
 | 0, j, hj => by
  have e : (Ls n fun c => if c < j then fr b W (f + 1) c else fr b W f c) = Ls n (fr b W (f + 1)) := ls_congr fun c hc => if_pos (by omega)
  refine Ev.s (fun k => ?_) h
  show front_Of.l1 (k + 1) _ _ _ _ _ _ _ _ _ = _
  rw [front_Of.l1, if_neg (by omega), e, w64 (by omega)]
 | d + 1, j, hj => by
  have hjn : j < n := by omega
  refine Ev.s (fun k => ?_) (of_l1 hn hb hW hf R h d (j + 1) (by omega))
  show front_Of.l1 (k + 1) _ _ _ _ _ _ _ _ _ = _
  rw [front_Of.l1, if_pos (by omega), if_pos (by omega), ls_len, if_pos (by omega), ls_len, if_pos (by omega), ls_rd n _ hjn, plus_eq (leastm_in hb _) (hW f j hf hjn), Option.bind_some, ls_rd n _ hjn, if_neg (Nat.lt_irrefl j), Int.toNat_natCast, ls_set, mn_eq, w64 (by omega)]
  have e : (Ls n fun a => if a = j then min (fr b W f j) (pl (leastv (f : Int) b) (W f j)) else if a < j then fr b W (f + 1) a else fr b W f a) = Ls n fun c => if c < j + 1 then fr b W (f + 1) c else fr b W f c := ls_congr fun a ha => by
   by_cases c1 : a = j
   ·rw [if_pos c1, if_pos (show a < j + 1 by omega), c1]; rfl
   ·rw [if_neg c1]
    by_cases c2 : a < j
    ·rw [if_pos c2, if_pos (show a < j + 1 by omega)]
    ·rw [if_neg c2, if_neg (show ¬ a < j + 1 by omega)]
  rw [e]
theorem of_l0 (hn : n ≤ 1000) (hb : ∀ x ∈ b, In x.f1) (hl : b.length ≤ 1000000) (hW : ∀ i j, i < n → j < n → In (W i j)) : ∀ d f : Nat, f + d = n → Ev (fun k => front_Of.l0 k (mat n W) b (Ls n (fr b W f)) (n : Int) (f : Int)) (Ls n (fr b W n))
 | 0, f, hf => by
  obtain rfl : f = n := by omega
  refine Ev.o (fun k => ?_)
  show front_Of.l0 (k + 1) _ _ _ _ _ = _
  rw [front_Of.l0, if_neg (by omega)]
 | d + 1, f, hf => by
  have hfn : f < n := by omega
  obtain ⟨K1, h1⟩ := of_l1 hn hb hW hfn _ (of_l0 hn hb hl hW d (f + 1) (by omega)) n 0 (by omega)
  obtain ⟨K2, h2⟩ := least_ev b (by omega) (f : Int)
  refine ⟨K1 + K2 + 1, fun k hk => ?_⟩
  obtain ⟨k, rfl⟩ : ∃ m, k = m + 1 := ⟨k - 1, by omega⟩
  have h1 := h1 k (by omega); have h2 := h2 k (by omega); dsimp only at h1 h2
  have e : (Ls n fun c => if c < 0 then fr b W (f + 1) c else fr b W f c) = Ls n (fr b W f) := ls_congr fun c hc => if_neg (Nat.not_lt_zero c)
  rw [e] at h1
  show front_Of.l0 (k + 1) _ _ _ _ _ = _
  rw [front_Of.l0, if_pos (by omega), h2, Option.bind_some, if_pos (by omega), mat_len, if_pos (by omega), mat_row n W hfn, ls_len]
  exact h1
/-- FRONT.OF. -/
theorem of6_ev (hn : n ≤ 1000) (hb : ∀ x ∈ b, In x.f1) (hl : b.length ≤ 1000000) (hW : ∀ i j, i < n → j < n → In (W i j)) : Ev (fun k => front_Of.f k (mat n W) b) (Ls n (fr b W n)) := by
 obtain ⟨K, h⟩ := of_l0 hn hb hl hW n 0 (by omega)
 refine ⟨K, fun k hk => ?_⟩
 show front_Of.f k (mat n W) b = _
 unfold front_Of.f
 rw [mat_len, rep_eq (by omega), Option.bind_some, ls_rep]
 exact h k hk
end
end Go.Proofs.Ytgeldmhgbnamcaa.Pure
end
section
/- The plain law of FrontWays. -/
namespace Go.Proofs.Ytgeldmhgbnamcaa.Pure
open Go.RowKit Go.Proofs.Ytgeldmhgbnamcaa.P Go.Proofs.YtgeldmhgbnamcaaW.PrintWords Go.Proofs.YtgeldmhgbnamcaaW.PrintLast
open FW
set_option linter.unusedVariables false
set_option linter.unusedSimpArgs false
theorem fways_l0 {n : Nat} {W : Mat} {p : Nat} {u : Int} (E : List S90) (I : List Int) (hn : n ≤ 1000) (hp : p < n) (hu : In u) (hW : ∀ i j, i < n → j < n → In (W i j)) (hd : W p p = 0) : ∀ d i : Nat, i + d = n → Ev (fun k => marchlandlaw06_FrontWays.l0 k (p : Int) u (mat n W) (Ls n fun c => pl u (W p c)) (i : Int) (n : Int) E I) true
  | 0, i, h => by
    refine Ev.o (fun k => ?_)
    show marchlandlaw06_FrontWays.l0 (k + 1) _ _ _ _ _ _ _ _ = _
    rw [marchlandlaw06_FrontWays.l0, if_neg (by omega), if_pos (by omega), ls_len, if_pos (by omega), ls_rd n _ hp, hd, pl_zero hu, beq_self_eq_true]
  | d + 1, i, h => by
    have hi : i < n := by omega
    refine Ev.s (fun k => ?_) (fways_l0 E I hn hp hu hW hd d (i + 1) (by omega))
    show marchlandlaw06_FrontWays.l0 (k + 1) _ _ _ _ _ _ _ _ = _
    rw [marchlandlaw06_FrontWays.l0, if_pos (by omega), if_pos (by omega), ls_len, if_pos (by omega), if_pos (by omega), mat_len, if_pos (by omega), mat_row n W hp, ls_len, if_pos (by omega), ls_rd n _ hi, plus1_eq hu (hW p i hp hi), Option.bind_some, ls_rd n _ hi, if_pos rfl, w64 (by omega)]
theorem fr_one {n : Nat} {W : Mat} (hW : ∀ i j, i < n → j < n → In (W i j)) {p c : Nat} (hp : p < n) (hc : c < n) {u : Int} (hu : In u) (q : Int) : fr [(⟨(p : Int), u, q⟩ : S50)] W n c = pl u (W p c) := by
  rw [fr_eq (List.pairwise_singleton _ _) (by intro x hx; rw [List.mem_singleton.1 hx]; exact hu) hW hc]
  have h := pl_in hu (hW p c hp hc)
  show rstep n W c N _ = _
  unfold rstep
  rw [if_pos ⟨by show (0 : Int) ≤ (p : Int); omega, by show (p : Int) < n; omega⟩]
  show min N (pl u (W ((p : Int)).toNat c)) = _
  rw [Int.toNat_natCast]
  unfold In at h; omega
theorem FrontWays : ∀ a0 : Int, ∀ l1 : List S90, (∀ y ∈ l1, 0 ≤ y.f2 ∧ y.f2 ≤ 18446744073709551615) → ∀ l2 : List Int, ∀ a1 a2 : Int, (0 ≤ a2 ∧ a2 ≤ 18446744073709551615) → ∃ k, marchlandlaw06_FrontWays.f k a0 l1 l2 a1 a2 = some true := by
  intro a0 l1 q1 l2 a1 a2 q2
  obtain ⟨n, E, I, hn, hE, hl, hI, hI0, hI8, K1, h1⟩ := fix5_ev a0 l1 l2 (fun x hx => q1 x hx)
  have G := good_wk (we9_ok hE.ok) n (Nat.le_refl n)
  obtain ⟨m1, m2, m3, m4⟩ := modn a1 hn.1 hn.2
  generalize hpv : Int.tmod (IntKind.u64.wrap a1) (n : Int) = pv at m2 m3 m4
  obtain ⟨p, rfl⟩ := Int.eq_ofNat_of_zero_le m2
  have hp : p < n := by omega
  have u0 := Int.tmod_nonneg 18446744073709551615 q2.1
  have u1 := Int.tmod_lt_of_pos a2 (show (0 : Int) < 18446744073709551615 by omega)
  generalize hue : Int.tmod a2 18446744073709551615 = u at u0 u1
  have hu : In u := ⟨u0, by unfold N; omega⟩
  obtain ⟨K2, h2⟩ := to5_ev (n := n) (E := E) (I := I) (by omega) (by omega)
  obtain ⟨K3, h3⟩ := paths_ev hn hE hl hI hI0 hI8
  obtain ⟨K4, h4⟩ := of6_ev (n := n) (W := wk (E.map ed9) n) (b := [(⟨(p : Int), u, 1⟩ : S50)]) (by omega) (by intro x hx; rw [List.mem_singleton.1 hx]; exact hu) (by simp) G.inn
  rw [show Ls n (fr [(⟨(p : Int), u, 1⟩ : S50)] (wk (E.map ed9) n) n) = Ls n (fun c => pl u (wk (E.map ed9) n p c)) from ls_congr fun c hc => fr_one G.inn hp hc hu 1] at h4
  obtain ⟨K5, h5⟩ := fways_l0 E I (by omega) hp hu G.inn (G.diag p hp) n 0 (by omega)
  refine ⟨K1 + K2 + K3 + K4 + K5 + 1, ?_⟩
  have h5 := h5 (K1 + K2 + K3 + K4 + K5) (by omega)
  have h1 := h1 (K1 + K2 + K3 + K4 + K5 + 1) (by omega); have h2 := h2 (K1 + K2 + K3 + K4 + K5 + 1) (by omega); have h3 := h3 (K1 + K2 + K3 + K4 + K5 + 1) (by omega); have h4 := h4 (K1 + K2 + K3 + K4 + K5 + 1) (by omega)
  dsimp only at h1 h2 h3 h4 h5
  have ht : marchlandlaw06_told.f = some true := rfl
  rw [marchlandlaw06_FrontWays.f, h1, Option.bind_some, m1, if_neg (by omega), h2, Option.bind_some, h3, Option.bind_some, hpv, m4, hue, h4, Option.bind_some, ht, Option.bind_some, if_pos rfl, ls_len, if_pos rfl, mat_len, if_pos rfl, if_pos (by omega), if_pos (by omega), mat_row n _ hp, ls_len, bne_self_eq_false, marchlandlaw06_FrontWays.j0, if_neg (by decide)]
  exact h5
end Go.Proofs.Ytgeldmhgbnamcaa.Pure
end
