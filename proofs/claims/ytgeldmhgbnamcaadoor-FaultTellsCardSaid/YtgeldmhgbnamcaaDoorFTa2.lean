/- Walks and laws of several statements of this seat, joined into one text; no condition. -/
import Derived.Test.YtgeldmhgbnamcaaDoorProg
import Derived.Below
import Derived.Deep.Draws
import Derived.Deep.AppendLies
import Derived.Maps.AppendAt
import Derived.OwnWalk
import Derived.Laws.BytesArg
import Derived.Laws.MakeOwn
import Derived.Laws.OwnMore
import Derived.Deep.OwnRows
import Derived.Tactics
import Derived.Lib.ConvBytes
import Derived.Laws.Slices
import Derived.WalkKit
import Derived.KernelRfl
import Derived.RowKit3
import Derived.Deep.LoopGhost
import Derived.Deep.QuietTactic
import Derived.BigQuiet
import Derived.WideLaws
import Derived.Deep.DeepCutAuto
import Derived.Deep.CutBlock
import Derived.Deep.RegionHeld3
import Derived.Laws.Rows
import Derived.Lib.AppendStr
import Derived.ArgAppend
import Derived.Laws.IdiomCopy
import Derived.OrdersHeld
import Derived.Laws.BitsLemmas
import Derived.RowKit
import Derived.Laws.StructEq
import Derived.LaidEql
import Derived.Stop.Asserts
import Derived.RowKitTokens
import Derived.LoopTactic
import Derived.Elder7
import Derived.Lib.ItoaLen
import Derived.Lib.ParseIntB
import Derived.Shelf.Strconv.Itoa3
import Derived.Lib.AppendIntMem
import Derived.Deep.Slices
import Derived.SizedLaws
import Derived.OpenShut
import Derived.Lib.SmallJoins
import Derived.Test.YtgeldmhgbnamcaaDoorRows
import Derived.LaidLaws
import Derived.LaidHandle
import Derived.Lay
import Derived.Stop.LaidErr
import Derived.Test.YtgeldmhgbnamcaaDoorFTa0
import Derived.Test.YtgeldmhgbnamcaaDoorFTa1
section
namespace Go.Proofs.YtgeldmhgbnamcaaDoor.Q
open Go.RowKit Go.Proofs.YtgeldmhgbnamcaaDoorW.PrintWords Go.Proofs.YtgeldmhgbnamcaaDoorW.PrintLast Go.Proofs.YtgeldmhgbnamcaaDoorW.PrintMore
attribute [local go_sem] max2_int min2_int max_two min_two max_three min_three max_four min_four
set_option linter.unusedVariables false
set_option linter.unusedSimpArgs false
def marchlandref02_Word.f (a0 : Int) : Option (ByteArray) := (some (([(⟨#[111, 107]⟩ : ByteArray), (⟨#[97, 114, 103, 117, 109, 101, 110, 116]⟩ : ByteArray), (⟨#[112, 111, 114, 116]⟩ : ByteArray), (⟨#[99, 121, 99, 108, 101]⟩ : ByteArray), (⟨#[109, 97, 110, 121]⟩ : ByteArray), (⟨#[117, 110, 106, 117, 115, 116, 105, 102, 105, 101, 100]⟩ : ByteArray), (⟨#[98, 97, 99, 107]⟩ : ByteArray), (⟨#[115, 116, 97, 108, 101]⟩ : ByteArray), (⟨#[99, 108, 111, 115, 101, 100]⟩ : ByteArray), (⟨#[102, 117, 108, 108]⟩ : ByteArray), (⟨#[111, 118, 101, 114]⟩ : ByteArray), (⟨#[115, 116, 97, 116, 101]⟩ : ByteArray), (⟨#[102, 111, 114, 109]⟩ : ByteArray), (⟨#[119, 111, 114, 100]⟩ : ByteArray), (⟨#[110, 111, 110, 101]⟩ : ByteArray)] : List ByteArray) : List ByteArray)).bind fun y137 => (if a0 < 0 then (some (⟨#[117, 110, 107, 110, 111, 119, 110]⟩ : ByteArray)) else (if a0 ≥ (y137.length : Int) then (some (⟨#[117, 110, 107, 110, 111, 119, 110]⟩ : ByteArray)) else (if 0 ≤ a0 then (if a0 < (y137.length : Int) then (some (rdOf ByteArray.empty y137 a0)) else (none)) else (none))))
set_option maxHeartbeats 8000000 in
set_option maxRecDepth 100000 in
theorem marchlandref02_Word.calls (a0 : Int) (r : ByteArray) (w : World) (h : marchlandref02_Word.f a0 = some r) :
    Calls Tryd.prog 57 #[.int .i64 a0] w fun e w' => e = .returned (.string r) ∧ Below w.heap.size w w' := by
  have HB := Aside0.mk (Below.refl w.heap.size w)
  have H : ((some (([(⟨#[111, 107]⟩ : ByteArray), (⟨#[97, 114, 103, 117, 109, 101, 110, 116]⟩ : ByteArray), (⟨#[112, 111, 114, 116]⟩ : ByteArray), (⟨#[99, 121, 99, 108, 101]⟩ : ByteArray), (⟨#[109, 97, 110, 121]⟩ : ByteArray), (⟨#[117, 110, 106, 117, 115, 116, 105, 102, 105, 101, 100]⟩ : ByteArray), (⟨#[98, 97, 99, 107]⟩ : ByteArray), (⟨#[115, 116, 97, 108, 101]⟩ : ByteArray), (⟨#[99, 108, 111, 115, 101, 100]⟩ : ByteArray), (⟨#[102, 117, 108, 108]⟩ : ByteArray), (⟨#[111, 118, 101, 114]⟩ : ByteArray), (⟨#[115, 116, 97, 116, 101]⟩ : ByteArray), (⟨#[102, 111, 114, 109]⟩ : ByteArray), (⟨#[119, 111, 114, 100]⟩ : ByteArray), (⟨#[110, 111, 110, 101]⟩ : ByteArray)] : List ByteArray) : List ByteArray)).bind fun y137 => (if a0 < 0 then (some (⟨#[117, 110, 107, 110, 111, 119, 110]⟩ : ByteArray)) else (if a0 ≥ (y137.length : Int) then (some (⟨#[117, 110, 107, 110, 111, 119, 110]⟩ : ByteArray)) else (if 0 ≤ a0 then (if a0 < (y137.length : Int) then (some (rdOf ByteArray.empty y137 a0)) else (none)) else (none))))) = some r := h
  clear h
  obtain ⟨y137, hy137⟩ : ∃ y_ : List ByteArray, y_ = (([(⟨#[111, 107]⟩ : ByteArray), (⟨#[97, 114, 103, 117, 109, 101, 110, 116]⟩ : ByteArray), (⟨#[112, 111, 114, 116]⟩ : ByteArray), (⟨#[99, 121, 99, 108, 101]⟩ : ByteArray), (⟨#[109, 97, 110, 121]⟩ : ByteArray), (⟨#[117, 110, 106, 117, 115, 116, 105, 102, 105, 101, 100]⟩ : ByteArray), (⟨#[98, 97, 99, 107]⟩ : ByteArray), (⟨#[115, 116, 97, 108, 101]⟩ : ByteArray), (⟨#[99, 108, 111, 115, 101, 100]⟩ : ByteArray), (⟨#[102, 117, 108, 108]⟩ : ByteArray), (⟨#[111, 118, 101, 114]⟩ : ByteArray), (⟨#[115, 116, 97, 116, 101]⟩ : ByteArray), (⟨#[102, 111, 114, 109]⟩ : ByteArray), (⟨#[119, 111, 114, 100]⟩ : ByteArray), (⟨#[110, 111, 110, 101]⟩ : ByteArray)] : List ByteArray)) := ⟨_, rfl⟩
  replace H : (if a0 < 0 then (some (⟨#[117, 110, 107, 110, 111, 119, 110]⟩ : ByteArray)) else (if a0 ≥ (y137.length : Int) then (some (⟨#[117, 110, 107, 110, 111, 119, 110]⟩ : ByteArray)) else (if 0 ≤ a0 then (if a0 < (y137.length : Int) then (some (rdOf ByteArray.empty y137 a0)) else (none)) else (none)))) = some r := by first | (rw [hy137]; with_reducible exact H) | (have H2_ := (Option.bind_some _ _).symm.trans H; rw [hy137]; with_reducible exact H2_) | (have H2_ := (Option.bind_some _ _).symm.trans H; with_reducible exact H2_) | with_reducible exact H | (rw [hy137]; exact H) | exact H
  have Ny137 := Aside0.mk hy137
  clear hy137
  by_cases c2 : a0 < 0
  · rw [if_pos c2] at H
    have c2b0 : decide (a0 < 0) = true := decide_eq_true c2
    clear c2
    obtain rfl := Option.some.inj H
    go_enter Tryd.func57, Tryd.ntmps57
    go_wp2_with (first | ((with_reducible refine gate_dst (N := 4) rfl ?_); (try (refine gate_guard (by rfl) ?_; dsimp only)); refine Kd.R_lit Kd.string _ 9 ?hg (N := 4) ?hd (xs := ([(⟨#[111, 107]⟩ : ByteArray), (⟨#[97, 114, 103, 117, 109, 101, 110, 116]⟩ : ByteArray), (⟨#[112, 111, 114, 116]⟩ : ByteArray), (⟨#[99, 121, 99, 108, 101]⟩ : ByteArray), (⟨#[109, 97, 110, 121]⟩ : ByteArray), (⟨#[117, 110, 106, 117, 115, 116, 105, 102, 105, 101, 100]⟩ : ByteArray), (⟨#[98, 97, 99, 107]⟩ : ByteArray), (⟨#[115, 116, 97, 108, 101]⟩ : ByteArray), (⟨#[99, 108, 111, 115, 101, 100]⟩ : ByteArray), (⟨#[102, 117, 108, 108]⟩ : ByteArray), (⟨#[111, 118, 101, 114]⟩ : ByteArray), (⟨#[115, 116, 97, 116, 101]⟩ : ByteArray), (⟨#[102, 111, 114, 109]⟩ : ByteArray), (⟨#[119, 111, 114, 100]⟩ : ByteArray), (⟨#[110, 111, 110, 101]⟩ : ByteArray)] : List ByteArray)) (inner := [.string (⟨#[111, 107]⟩ : ByteArray), .string (⟨#[97, 114, 103, 117, 109, 101, 110, 116]⟩ : ByteArray), .string (⟨#[112, 111, 114, 116]⟩ : ByteArray), .string (⟨#[99, 121, 99, 108, 101]⟩ : ByteArray), .string (⟨#[109, 97, 110, 121]⟩ : ByteArray), .string (⟨#[117, 110, 106, 117, 115, 116, 105, 102, 105, 101, 100]⟩ : ByteArray), .string (⟨#[98, 97, 99, 107]⟩ : ByteArray), .string (⟨#[115, 116, 97, 108, 101]⟩ : ByteArray), .string (⟨#[99, 108, 111, 115, 101, 100]⟩ : ByteArray), .string (⟨#[102, 117, 108, 108]⟩ : ByteArray), .string (⟨#[111, 118, 101, 114]⟩ : ByteArray), .string (⟨#[115, 116, 97, 116, 101]⟩ : ByteArray), .string (⟨#[102, 111, 114, 109]⟩ : ByteArray), .string (⟨#[119, 111, 114, 100]⟩ : ByteArray), .string (⟨#[110, 111, 110, 101]⟩ : ByteArray)]) (ok := fun _ => True) (okp := fun _ => True) ?hr ?hp (fun _ hk => hk) trivial (Below.refl _ _) (Nat.le_refl _) (by simp) ?_; (case hd => rfl); (case hg => rfl); (case hr => first | (go_simp; done) | (go_simp; rfl)); (case hp => exact (Reps.one (show Kd.M Kd.string _ _ _ (⟨#[111, 107]⟩ : ByteArray) [.string (⟨#[111, 107]⟩ : ByteArray)] from rfl) (Reps.one (show Kd.M Kd.string _ _ _ (⟨#[97, 114, 103, 117, 109, 101, 110, 116]⟩ : ByteArray) [.string (⟨#[97, 114, 103, 117, 109, 101, 110, 116]⟩ : ByteArray)] from rfl) (Reps.one (show Kd.M Kd.string _ _ _ (⟨#[112, 111, 114, 116]⟩ : ByteArray) [.string (⟨#[112, 111, 114, 116]⟩ : ByteArray)] from rfl) (Reps.one (show Kd.M Kd.string _ _ _ (⟨#[99, 121, 99, 108, 101]⟩ : ByteArray) [.string (⟨#[99, 121, 99, 108, 101]⟩ : ByteArray)] from rfl) (Reps.one (show Kd.M Kd.string _ _ _ (⟨#[109, 97, 110, 121]⟩ : ByteArray) [.string (⟨#[109, 97, 110, 121]⟩ : ByteArray)] from rfl) (Reps.one (show Kd.M Kd.string _ _ _ (⟨#[117, 110, 106, 117, 115, 116, 105, 102, 105, 101, 100]⟩ : ByteArray) [.string (⟨#[117, 110, 106, 117, 115, 116, 105, 102, 105, 101, 100]⟩ : ByteArray)] from rfl) (Reps.one (show Kd.M Kd.string _ _ _ (⟨#[98, 97, 99, 107]⟩ : ByteArray) [.string (⟨#[98, 97, 99, 107]⟩ : ByteArray)] from rfl) (Reps.one (show Kd.M Kd.string _ _ _ (⟨#[115, 116, 97, 108, 101]⟩ : ByteArray) [.string (⟨#[115, 116, 97, 108, 101]⟩ : ByteArray)] from rfl) (Reps.one (show Kd.M Kd.string _ _ _ (⟨#[99, 108, 111, 115, 101, 100]⟩ : ByteArray) [.string (⟨#[99, 108, 111, 115, 101, 100]⟩ : ByteArray)] from rfl) (Reps.one (show Kd.M Kd.string _ _ _ (⟨#[102, 117, 108, 108]⟩ : ByteArray) [.string (⟨#[102, 117, 108, 108]⟩ : ByteArray)] from rfl) (Reps.one (show Kd.M Kd.string _ _ _ (⟨#[111, 118, 101, 114]⟩ : ByteArray) [.string (⟨#[111, 118, 101, 114]⟩ : ByteArray)] from rfl) (Reps.one (show Kd.M Kd.string _ _ _ (⟨#[115, 116, 97, 116, 101]⟩ : ByteArray) [.string (⟨#[115, 116, 97, 116, 101]⟩ : ByteArray)] from rfl) (Reps.one (show Kd.M Kd.string _ _ _ (⟨#[102, 111, 114, 109]⟩ : ByteArray) [.string (⟨#[102, 111, 114, 109]⟩ : ByteArray)] from rfl) (Reps.one (show Kd.M Kd.string _ _ _ (⟨#[119, 111, 114, 100]⟩ : ByteArray) [.string (⟨#[119, 111, 114, 100]⟩ : ByteArray)] from rfl) (Reps.one (show Kd.M Kd.string _ _ _ (⟨#[110, 111, 110, 101]⟩ : ByteArray) [.string (⟨#[110, 111, 110, 101]⟩ : ByteArray)] from rfl) (Reps.none _ _))))))))))))))))); intro v138 w3 ho4 hb hg_ hnew_; clear hg_ hnew_; (first | rw [← Ny137.out] at ho4 | (simp only [Int.reduceToNat] at ho4; rw [← Ny137.out] at ho4)); have n0_ := Aside0.mk (Kd.R_lower ho4 (below_size (by repeat (first | (with_reducible first | exact HB.out | apply below_alloc | apply pw_below_drewN | apply below_drew1) | exact HB.out)))); have n1_ := Aside0.mk (below_step (by repeat (first | (with_reducible first | exact HB.out | apply below_alloc | apply pw_below_drewN | apply below_drew1) | exact HB.out)) hb); clear HB; have HO139 := n0_; have HB := n1_; clear n0_ n1_; clear hb ho4))
    go_ret
    exact ⟨by first | rfl | (simp [errW_none, errW_some] <;> rfl) | (simp [*, errW_none, errW_some] <;> rfl), by repeat (first | (with_reducible first | exact HB.out | apply below_alloc | apply pw_below_drewN | apply below_drew1) | exact HB.out)⟩
  · rw [if_neg c2] at H
    have c2b0 : decide (a0 < 0) = false := decide_eq_false c2
    clear c2
    by_cases c5 : a0 ≥ (y137.length : Int)
    · rw [if_pos c5] at H
      have c5b0 : decide ((y137.length : Int) ≤ a0) = true := decide_eq_true c5
      clear c5
      obtain rfl := Option.some.inj H
      go_enter Tryd.func57, Tryd.ntmps57
      go_wp2_with (first | ((with_reducible refine gate_dst (N := 4) rfl ?_); (try (refine gate_guard (by rfl) ?_; dsimp only)); refine Kd.R_lit Kd.string _ 9 ?hg (N := 4) ?hd (xs := ([(⟨#[111, 107]⟩ : ByteArray), (⟨#[97, 114, 103, 117, 109, 101, 110, 116]⟩ : ByteArray), (⟨#[112, 111, 114, 116]⟩ : ByteArray), (⟨#[99, 121, 99, 108, 101]⟩ : ByteArray), (⟨#[109, 97, 110, 121]⟩ : ByteArray), (⟨#[117, 110, 106, 117, 115, 116, 105, 102, 105, 101, 100]⟩ : ByteArray), (⟨#[98, 97, 99, 107]⟩ : ByteArray), (⟨#[115, 116, 97, 108, 101]⟩ : ByteArray), (⟨#[99, 108, 111, 115, 101, 100]⟩ : ByteArray), (⟨#[102, 117, 108, 108]⟩ : ByteArray), (⟨#[111, 118, 101, 114]⟩ : ByteArray), (⟨#[115, 116, 97, 116, 101]⟩ : ByteArray), (⟨#[102, 111, 114, 109]⟩ : ByteArray), (⟨#[119, 111, 114, 100]⟩ : ByteArray), (⟨#[110, 111, 110, 101]⟩ : ByteArray)] : List ByteArray)) (inner := [.string (⟨#[111, 107]⟩ : ByteArray), .string (⟨#[97, 114, 103, 117, 109, 101, 110, 116]⟩ : ByteArray), .string (⟨#[112, 111, 114, 116]⟩ : ByteArray), .string (⟨#[99, 121, 99, 108, 101]⟩ : ByteArray), .string (⟨#[109, 97, 110, 121]⟩ : ByteArray), .string (⟨#[117, 110, 106, 117, 115, 116, 105, 102, 105, 101, 100]⟩ : ByteArray), .string (⟨#[98, 97, 99, 107]⟩ : ByteArray), .string (⟨#[115, 116, 97, 108, 101]⟩ : ByteArray), .string (⟨#[99, 108, 111, 115, 101, 100]⟩ : ByteArray), .string (⟨#[102, 117, 108, 108]⟩ : ByteArray), .string (⟨#[111, 118, 101, 114]⟩ : ByteArray), .string (⟨#[115, 116, 97, 116, 101]⟩ : ByteArray), .string (⟨#[102, 111, 114, 109]⟩ : ByteArray), .string (⟨#[119, 111, 114, 100]⟩ : ByteArray), .string (⟨#[110, 111, 110, 101]⟩ : ByteArray)]) (ok := fun _ => True) (okp := fun _ => True) ?hr ?hp (fun _ hk => hk) trivial (Below.refl _ _) (Nat.le_refl _) (by simp) ?_; (case hd => rfl); (case hg => rfl); (case hr => first | (go_simp; done) | (go_simp; rfl)); (case hp => exact (Reps.one (show Kd.M Kd.string _ _ _ (⟨#[111, 107]⟩ : ByteArray) [.string (⟨#[111, 107]⟩ : ByteArray)] from rfl) (Reps.one (show Kd.M Kd.string _ _ _ (⟨#[97, 114, 103, 117, 109, 101, 110, 116]⟩ : ByteArray) [.string (⟨#[97, 114, 103, 117, 109, 101, 110, 116]⟩ : ByteArray)] from rfl) (Reps.one (show Kd.M Kd.string _ _ _ (⟨#[112, 111, 114, 116]⟩ : ByteArray) [.string (⟨#[112, 111, 114, 116]⟩ : ByteArray)] from rfl) (Reps.one (show Kd.M Kd.string _ _ _ (⟨#[99, 121, 99, 108, 101]⟩ : ByteArray) [.string (⟨#[99, 121, 99, 108, 101]⟩ : ByteArray)] from rfl) (Reps.one (show Kd.M Kd.string _ _ _ (⟨#[109, 97, 110, 121]⟩ : ByteArray) [.string (⟨#[109, 97, 110, 121]⟩ : ByteArray)] from rfl) (Reps.one (show Kd.M Kd.string _ _ _ (⟨#[117, 110, 106, 117, 115, 116, 105, 102, 105, 101, 100]⟩ : ByteArray) [.string (⟨#[117, 110, 106, 117, 115, 116, 105, 102, 105, 101, 100]⟩ : ByteArray)] from rfl) (Reps.one (show Kd.M Kd.string _ _ _ (⟨#[98, 97, 99, 107]⟩ : ByteArray) [.string (⟨#[98, 97, 99, 107]⟩ : ByteArray)] from rfl) (Reps.one (show Kd.M Kd.string _ _ _ (⟨#[115, 116, 97, 108, 101]⟩ : ByteArray) [.string (⟨#[115, 116, 97, 108, 101]⟩ : ByteArray)] from rfl) (Reps.one (show Kd.M Kd.string _ _ _ (⟨#[99, 108, 111, 115, 101, 100]⟩ : ByteArray) [.string (⟨#[99, 108, 111, 115, 101, 100]⟩ : ByteArray)] from rfl) (Reps.one (show Kd.M Kd.string _ _ _ (⟨#[102, 117, 108, 108]⟩ : ByteArray) [.string (⟨#[102, 117, 108, 108]⟩ : ByteArray)] from rfl) (Reps.one (show Kd.M Kd.string _ _ _ (⟨#[111, 118, 101, 114]⟩ : ByteArray) [.string (⟨#[111, 118, 101, 114]⟩ : ByteArray)] from rfl) (Reps.one (show Kd.M Kd.string _ _ _ (⟨#[115, 116, 97, 116, 101]⟩ : ByteArray) [.string (⟨#[115, 116, 97, 116, 101]⟩ : ByteArray)] from rfl) (Reps.one (show Kd.M Kd.string _ _ _ (⟨#[102, 111, 114, 109]⟩ : ByteArray) [.string (⟨#[102, 111, 114, 109]⟩ : ByteArray)] from rfl) (Reps.one (show Kd.M Kd.string _ _ _ (⟨#[119, 111, 114, 100]⟩ : ByteArray) [.string (⟨#[119, 111, 114, 100]⟩ : ByteArray)] from rfl) (Reps.one (show Kd.M Kd.string _ _ _ (⟨#[110, 111, 110, 101]⟩ : ByteArray) [.string (⟨#[110, 111, 110, 101]⟩ : ByteArray)] from rfl) (Reps.none _ _))))))))))))))))); intro v138 w6 ho7 hb hg_ hnew_; clear hg_ hnew_; (first | rw [← Ny137.out] at ho7 | (simp only [Int.reduceToNat] at ho7; rw [← Ny137.out] at ho7)); have n0_ := Aside0.mk (Kd.R_lower ho7 (below_size (by repeat (first | (with_reducible first | exact HB.out | apply below_alloc | apply pw_below_drewN | apply below_drew1) | exact HB.out)))); have n1_ := Aside0.mk (below_step (by repeat (first | (with_reducible first | exact HB.out | apply below_alloc | apply pw_below_drewN | apply below_drew1) | exact HB.out)) hb); clear HB; have HO139 := n0_; have HB := n1_; clear n0_ n1_; clear hb ho7; obtain ⟨Ao8, co8, eo8⟩ := Kd.R_slice HO139.out; subst eo8))
      go_ret
      exact ⟨by first | rfl | (simp [errW_none, errW_some] <;> rfl) | (simp [*, errW_none, errW_some] <;> rfl), by repeat (first | (with_reducible first | exact HB.out | apply below_alloc | apply pw_below_drewN | apply below_drew1) | exact HB.out)⟩
    · rw [if_neg c5] at H
      have c5b0 : decide ((y137.length : Int) ≤ a0) = false := decide_eq_false c5
      clear c5
      by_cases c9 : 0 ≤ a0
      · rw [if_pos c9] at H
        have c9b0 : decide (0 ≤ a0) = true := decide_eq_true c9
        clear c9
        by_cases c10 : a0 < (y137.length : Int)
        · rw [if_pos c10] at H
          have c10b0 : decide (a0 < (y137.length : Int)) = true := decide_eq_true c10
          clear c10
          obtain rfl := Option.some.inj H
          go_enter Tryd.func57, Tryd.ntmps57
          go_wp2_with (first | ((with_reducible refine gate_dst (N := 4) rfl ?_); (try (refine gate_guard (by rfl) ?_; dsimp only)); refine Kd.R_lit Kd.string _ 9 ?hg (N := 4) ?hd (xs := ([(⟨#[111, 107]⟩ : ByteArray), (⟨#[97, 114, 103, 117, 109, 101, 110, 116]⟩ : ByteArray), (⟨#[112, 111, 114, 116]⟩ : ByteArray), (⟨#[99, 121, 99, 108, 101]⟩ : ByteArray), (⟨#[109, 97, 110, 121]⟩ : ByteArray), (⟨#[117, 110, 106, 117, 115, 116, 105, 102, 105, 101, 100]⟩ : ByteArray), (⟨#[98, 97, 99, 107]⟩ : ByteArray), (⟨#[115, 116, 97, 108, 101]⟩ : ByteArray), (⟨#[99, 108, 111, 115, 101, 100]⟩ : ByteArray), (⟨#[102, 117, 108, 108]⟩ : ByteArray), (⟨#[111, 118, 101, 114]⟩ : ByteArray), (⟨#[115, 116, 97, 116, 101]⟩ : ByteArray), (⟨#[102, 111, 114, 109]⟩ : ByteArray), (⟨#[119, 111, 114, 100]⟩ : ByteArray), (⟨#[110, 111, 110, 101]⟩ : ByteArray)] : List ByteArray)) (inner := [.string (⟨#[111, 107]⟩ : ByteArray), .string (⟨#[97, 114, 103, 117, 109, 101, 110, 116]⟩ : ByteArray), .string (⟨#[112, 111, 114, 116]⟩ : ByteArray), .string (⟨#[99, 121, 99, 108, 101]⟩ : ByteArray), .string (⟨#[109, 97, 110, 121]⟩ : ByteArray), .string (⟨#[117, 110, 106, 117, 115, 116, 105, 102, 105, 101, 100]⟩ : ByteArray), .string (⟨#[98, 97, 99, 107]⟩ : ByteArray), .string (⟨#[115, 116, 97, 108, 101]⟩ : ByteArray), .string (⟨#[99, 108, 111, 115, 101, 100]⟩ : ByteArray), .string (⟨#[102, 117, 108, 108]⟩ : ByteArray), .string (⟨#[111, 118, 101, 114]⟩ : ByteArray), .string (⟨#[115, 116, 97, 116, 101]⟩ : ByteArray), .string (⟨#[102, 111, 114, 109]⟩ : ByteArray), .string (⟨#[119, 111, 114, 100]⟩ : ByteArray), .string (⟨#[110, 111, 110, 101]⟩ : ByteArray)]) (ok := fun _ => True) (okp := fun _ => True) ?hr ?hp (fun _ hk => hk) trivial (Below.refl _ _) (Nat.le_refl _) (by simp) ?_; (case hd => rfl); (case hg => rfl); (case hr => first | (go_simp; done) | (go_simp; rfl)); (case hp => exact (Reps.one (show Kd.M Kd.string _ _ _ (⟨#[111, 107]⟩ : ByteArray) [.string (⟨#[111, 107]⟩ : ByteArray)] from rfl) (Reps.one (show Kd.M Kd.string _ _ _ (⟨#[97, 114, 103, 117, 109, 101, 110, 116]⟩ : ByteArray) [.string (⟨#[97, 114, 103, 117, 109, 101, 110, 116]⟩ : ByteArray)] from rfl) (Reps.one (show Kd.M Kd.string _ _ _ (⟨#[112, 111, 114, 116]⟩ : ByteArray) [.string (⟨#[112, 111, 114, 116]⟩ : ByteArray)] from rfl) (Reps.one (show Kd.M Kd.string _ _ _ (⟨#[99, 121, 99, 108, 101]⟩ : ByteArray) [.string (⟨#[99, 121, 99, 108, 101]⟩ : ByteArray)] from rfl) (Reps.one (show Kd.M Kd.string _ _ _ (⟨#[109, 97, 110, 121]⟩ : ByteArray) [.string (⟨#[109, 97, 110, 121]⟩ : ByteArray)] from rfl) (Reps.one (show Kd.M Kd.string _ _ _ (⟨#[117, 110, 106, 117, 115, 116, 105, 102, 105, 101, 100]⟩ : ByteArray) [.string (⟨#[117, 110, 106, 117, 115, 116, 105, 102, 105, 101, 100]⟩ : ByteArray)] from rfl) (Reps.one (show Kd.M Kd.string _ _ _ (⟨#[98, 97, 99, 107]⟩ : ByteArray) [.string (⟨#[98, 97, 99, 107]⟩ : ByteArray)] from rfl) (Reps.one (show Kd.M Kd.string _ _ _ (⟨#[115, 116, 97, 108, 101]⟩ : ByteArray) [.string (⟨#[115, 116, 97, 108, 101]⟩ : ByteArray)] from rfl) (Reps.one (show Kd.M Kd.string _ _ _ (⟨#[99, 108, 111, 115, 101, 100]⟩ : ByteArray) [.string (⟨#[99, 108, 111, 115, 101, 100]⟩ : ByteArray)] from rfl) (Reps.one (show Kd.M Kd.string _ _ _ (⟨#[102, 117, 108, 108]⟩ : ByteArray) [.string (⟨#[102, 117, 108, 108]⟩ : ByteArray)] from rfl) (Reps.one (show Kd.M Kd.string _ _ _ (⟨#[111, 118, 101, 114]⟩ : ByteArray) [.string (⟨#[111, 118, 101, 114]⟩ : ByteArray)] from rfl) (Reps.one (show Kd.M Kd.string _ _ _ (⟨#[115, 116, 97, 116, 101]⟩ : ByteArray) [.string (⟨#[115, 116, 97, 116, 101]⟩ : ByteArray)] from rfl) (Reps.one (show Kd.M Kd.string _ _ _ (⟨#[102, 111, 114, 109]⟩ : ByteArray) [.string (⟨#[102, 111, 114, 109]⟩ : ByteArray)] from rfl) (Reps.one (show Kd.M Kd.string _ _ _ (⟨#[119, 111, 114, 100]⟩ : ByteArray) [.string (⟨#[119, 111, 114, 100]⟩ : ByteArray)] from rfl) (Reps.one (show Kd.M Kd.string _ _ _ (⟨#[110, 111, 110, 101]⟩ : ByteArray) [.string (⟨#[110, 111, 110, 101]⟩ : ByteArray)] from rfl) (Reps.none _ _))))))))))))))))); intro v138 w11 ho12 hb hg_ hnew_; clear hg_ hnew_; (first | rw [← Ny137.out] at ho12 | (simp only [Int.reduceToNat] at ho12; rw [← Ny137.out] at ho12)); have n0_ := Aside0.mk (Kd.R_lower ho12 (below_size (by repeat (first | (with_reducible first | exact HB.out | apply below_alloc | apply pw_below_drewN | apply below_drew1) | exact HB.out)))); have n1_ := Aside0.mk (below_step (by repeat (first | (with_reducible first | exact HB.out | apply below_alloc | apply pw_below_drewN | apply below_drew1) | exact HB.out)) hb); clear HB; have HO139 := n0_; have HB := n1_; clear n0_ n1_; clear hb ho12; obtain ⟨Ao13, co13, eo13⟩ := Kd.R_slice HO139.out; subst eo13; have p140 : 0 ≤ (a0 : Int) := of_decide_eq_true (by first | (with_reducible assumption) | assumption); have q140 : a0 < (y137.length : Int) := of_decide_eq_true (by first | (with_reducible assumption) | assumption); obtain ⟨ad140, e140, hx140_0⟩ := Kd.at_string (Kd.R_reads' HO139.out).2.2 a0 p140 q140; cases e140; replace p140 := eq_true p140; replace q140 := eq_true q140))
          go_ret
          exact ⟨by first | rfl | (simp [errW_none, errW_some] <;> rfl) | (simp [*, errW_none, errW_some] <;> rfl), by repeat (first | (with_reducible first | exact HB.out | apply below_alloc | apply pw_below_drewN | apply below_drew1) | exact HB.out)⟩
        · rw [if_neg c10] at H
          exact absurd H (by simp)
      · rw [if_neg c9] at H
        exact absurd H (by simp)
def marchlandref02_Text.l0 : Nat → List (S42) → Int → ByteArray → Int → Option (ByteArray)
  | 0, _, _, _, _ => none
  | k + 1, x0, x1, x5, x6 => if x6 < (x0.length : Int) then (if 0 ≤ x6 then (if x5.size + ((rd_T42 x0 x6).f0).size ≤ 9223372036854775807 then (if (x5 ++ ((rd_T42 x0 x6).f0)).size + 1 ≤ 9223372036854775807 then ((marchlandref02_Num.f k ((rd_T42 x0 x6).f1)).bind fun t143 => (if ((x5 ++ ((rd_T42 x0 x6).f0)) ++ (⟨#[32]⟩ : ByteArray)).size + t143.size ≤ 9223372036854775807 then (if (((x5 ++ ((rd_T42 x0 x6).f0)) ++ (⟨#[32]⟩ : ByteArray)) ++ t143).size + 2 ≤ 9223372036854775807 then (marchlandref02_Text.l0 k x0 x1 ((((x5 ++ ((rd_T42 x0 x6).f0)) ++ (⟨#[32]⟩ : ByteArray)) ++ t143) ++ (⟨#[58, 32]⟩ : ByteArray)) (wrap64 (x6 + 1))) else (none)) else (none))) else (none)) else (none)) else (none)) else ((marchlandref02_Word.f x1).bind fun t144 => (if x5.size + t144.size ≤ 9223372036854775807 then (some (x5 ++ t144)) else (none)))
def marchlandref02_Text.f (k : Nat) (l0 : List (S42)) (a1 : Int) : Option (ByteArray) := marchlandref02_Text.l0 k l0 a1 (⟨#[]⟩ : ByteArray) 0
theorem marchlandref02_Text.mono_l : ∀ k, (∀ y0 y1 y2 y3, LeO (marchlandref02_Text.l0 k y0 y1 y2 y3) (marchlandref02_Text.l0 (k + 1) y0 y1 y2 y3))
  | 0 => fun _ _ _ _ r h => by simp [marchlandref02_Text.l0] at h
  | k + 1 => by
    have ih0 := marchlandref02_Text.mono_l k
    · intro y0 y1 y2 y3
      unfold marchlandref02_Text.l0
      repeat' first
      | (with_reducible exact ih0 _ _ _ _)
      | (with_reducible exact marchlandref02_Num.mono _ _)
      | (with_reducible exact LeO.refl _)
      | (with_reducible exact LeO.none _)
      | (with_reducible refine LeO.ite ?_ ?_)
      | (with_reducible refine LeO.bind ?_ (fun _ => ?_))
      | exact ih0 _ _ _ _
      | exact marchlandref02_Num.mono _ _
      | exact LeO.none _
      | refine LeO.ite ?_ ?_
      | refine LeO.bind ?_ (fun _ => ?_)
theorem marchlandref02_Text.mono : ∀ a0 a1 k, LeO (marchlandref02_Text.f k a0 a1) (marchlandref02_Text.f (k + 1) a0 a1) := by
  intro a0 a1 k
  have ih0 := marchlandref02_Text.mono_l k
  unfold marchlandref02_Text.f
  repeat' first
      | (with_reducible exact ih0 _ _ _ _)
      | (with_reducible exact marchlandref02_Num.mono _ _)
      | (with_reducible exact LeO.refl _)
      | (with_reducible exact LeO.none _)
      | (with_reducible refine LeO.ite ?_ ?_)
      | (with_reducible refine LeO.bind ?_ (fun _ => ?_))
      | exact ih0 _ _ _ _
      | exact marchlandref02_Num.mono _ _
      | exact LeO.none _
      | refine LeO.ite ?_ ?_
      | refine LeO.bind ?_ (fun _ => ?_)
def marchlandref02_Text.T5 : Bool × List (List Nat × List Nat) := (true, [([], []), ([], []), ([], []), ([1, 2], [1, 2]), ([3], [3]), ([4], [4]), ([0, 5], [0, 5]), ([6], [6]), ([], []), ([], []), ([8, 9], [8, 9]), ([10], [10]), ([11], [11]), ([12], [12]), ([7, 13], [7, 13]), ([14], [14]), ([15, 13, 0, 1, 2, 3, 4, 5, 6, 7, 8, 9, 10, 11, 12, 13, 14, 15], [0, 15])])
def marchlandref02_Text.B5 : List Nat := [0, 0, 0, 6, 14, 30, 63, 127, 0, 0, 768, 1792, 3840, 7936, 16383, 32767, 65535]
theorem marchlandref02_Text.tab5 : rtab .any (opsOf Tryd.f23 5) = marchlandref02_Text.T5 := by kernel_rfl
theorem marchlandref02_Text.bits5 : waitsOk marchlandref02_Text.T5.2 marchlandref02_Text.B5 = true := by kernel_rfl
set_option maxHeartbeats 8000000 in
set_option maxRecDepth 100000 in
theorem marchlandref02_Text.calls (k : Nat) (A0 : Option Addr) (c0 : Nat) (l0 : List (S42)) (a1 : Int) (r : ByteArray) (w : World) (hr0 : Kd.C k42 w A0 l0.length l0) (hc0 : l0.length ≤ c0) (h : marchlandref02_Text.f k l0 a1 = some r) :
    Calls Tryd.prog 23 #[.slice A0 l0.length c0, .int .i64 a1] w fun e w' => e = .returned (.string r) ∧ Below w.heap.size w w' := by
  have HR0 := Aside0.mk hr0
  have HC0 := Aside0.mk hc0
  clear hr0 hc0
  have HB := Aside0.mk (Below.refl w.heap.size w)
  have H : (marchlandref02_Text.l0 k l0 a1 (⟨#[]⟩ : ByteArray) 0) = some r := h
  clear h
  have H' := Aside0.mk H
  clear H
  go_enter Tryd.func23, Tryd.ntmps23
  go_wp2
  go_loopg [5, 6] k (fun kq v5 v6 w' => ∃ (x5_1 : ByteArray) (x6_1 : Int), v5 = .string x5_1 ∧ v6 = .int .i64 x6_1 ∧ Aside0 (marchlandref02_Text.l0 kq l0 a1 x5_1 x6_1 = some r) ∧ Aside0 (kq ≤ k) ∧ Aside0 (Below w.heap.size w w'))
  case atStart => exact ⟨((⟨#[]⟩ : ByteArray)), (0), (by first | rfl | (simp; done) | (simp [*]; done)), (by first | rfl | (simp; done) | (simp [*]; done)), H', ⟨Nat.le_refl _⟩, ⟨by repeat (first | (with_reducible first | exact HB.out | apply below_alloc | apply pw_below_drewN | apply below_drew1) | exact HB.out)⟩⟩
  case round =>
    clear H'
    try clear c2
    try clear p2
    obtain ⟨x5_1, x6_1, rfl, rfl, HA, HK1, HB⟩ := hrel
    cases gk with
    | zero => exact absurd HA.out (by simp [marchlandref02_Text.l0])
    | succ k1 =>
      have H := HA.out
      clear HA
      simp only [marchlandref02_Text.l0] at H
      by_cases c3 : x6_1 < (l0.length : Int)
      · rw [if_pos c3] at H
        have c3b0 : decide (x6_1 < (l0.length : Int)) = true := decide_eq_true c3
        clear c3
        by_cases c4 : 0 ≤ x6_1
        · rw [if_pos c4] at H
          have c4b0 : decide (0 ≤ x6_1) = true := decide_eq_true c4
          clear c4
          by_cases c5 : x5_1.size + ((rd_T42 l0 x6_1).f0).size ≤ 9223372036854775807
          · rw [if_pos c5] at H
            have c5b0 := eq_true c5
            have c5b1 : decide (x5_1.size + ((rd_T42 l0 x6_1).f0).size ≤ 9223372036854775807) = true := decide_eq_true c5
            try have c5b2 : (9223372036854775807 < x5_1.size + ((rd_T42 l0 x6_1).f0).size) = False := eq_false (Nat.not_lt.2 c5)
            by_cases c6 : (x5_1 ++ ((rd_T42 l0 x6_1).f0)).size + 1 ≤ 9223372036854775807
            · rw [if_pos c6] at H
              have c6b0 := eq_true c6
              have c6b1 : decide ((x5_1 ++ ((rd_T42 l0 x6_1).f0)).size + 1 ≤ 9223372036854775807) = true := decide_eq_true c6
              try have c6b2 : (9223372036854775807 < (x5_1 ++ ((rd_T42 l0 x6_1).f0)).size + 1) = False := eq_false (Nat.not_lt.2 c6)
              have c6b3 : (9223372036854775807 < x5_1.size + (rd_T42 l0 x6_1).f0.size + 1) = False := eq_false (by have h_ := c6; have e1_ : (⟨#[32]⟩ : ByteArray).size = 1 := rfl; have e2_ : (⟨#[58, 32]⟩ : ByteArray).size = 2 := rfl; simp only [ByteArray.size_append] at h_; omega)
              replace H := Option.bind_eq_some_iff.mp H
              obtain ⟨t143, A70, H⟩ := H
              replace H : (if ((x5_1 ++ ((rd_T42 l0 x6_1).f0)) ++ (⟨#[32]⟩ : ByteArray)).size + t143.size ≤ 9223372036854775807 then (if (((x5_1 ++ ((rd_T42 l0 x6_1).f0)) ++ (⟨#[32]⟩ : ByteArray)) ++ t143).size + 2 ≤ 9223372036854775807 then (marchlandref02_Text.l0 k1 l0 a1 ((((x5_1 ++ ((rd_T42 l0 x6_1).f0)) ++ (⟨#[32]⟩ : ByteArray)) ++ t143) ++ (⟨#[58, 32]⟩ : ByteArray)) (wrap64 (x6_1 + 1))) else (none)) else (none)) = some r := H
              have A7 := Aside0.mk A70
              clear A70
              by_cases c8 : ((x5_1 ++ ((rd_T42 l0 x6_1).f0)) ++ (⟨#[32]⟩ : ByteArray)).size + t143.size ≤ 9223372036854775807
              · rw [if_pos c8] at H
                have c8b0 := eq_true c8
                have c8b1 : decide (((x5_1 ++ ((rd_T42 l0 x6_1).f0)) ++ (⟨#[32]⟩ : ByteArray)).size + t143.size ≤ 9223372036854775807) = true := decide_eq_true c8
                try have c8b2 : (9223372036854775807 < ((x5_1 ++ ((rd_T42 l0 x6_1).f0)) ++ (⟨#[32]⟩ : ByteArray)).size + t143.size) = False := eq_false (Nat.not_lt.2 c8)
                have c8b3 : (9223372036854775807 < x5_1.size + (rd_T42 l0 x6_1).f0.size + 1 + t143.size) = False := eq_false (by have h_ := c8; have e1_ : (⟨#[32]⟩ : ByteArray).size = 1 := rfl; have e2_ : (⟨#[58, 32]⟩ : ByteArray).size = 2 := rfl; simp only [ByteArray.size_append] at h_; omega)
                by_cases c9 : (((x5_1 ++ ((rd_T42 l0 x6_1).f0)) ++ (⟨#[32]⟩ : ByteArray)) ++ t143).size + 2 ≤ 9223372036854775807
                · rw [if_pos c9] at H
                  have c9b0 := eq_true c9
                  have c9b1 : decide ((((x5_1 ++ ((rd_T42 l0 x6_1).f0)) ++ (⟨#[32]⟩ : ByteArray)) ++ t143).size + 2 ≤ 9223372036854775807) = true := decide_eq_true c9
                  try have c9b2 : (9223372036854775807 < (((x5_1 ++ ((rd_T42 l0 x6_1).f0)) ++ (⟨#[32]⟩ : ByteArray)) ++ t143).size + 2) = False := eq_false (Nat.not_lt.2 c9)
                  have c9b3 : (9223372036854775807 < x5_1.size + (rd_T42 l0 x6_1).f0.size + 1 + t143.size + 2) = False := eq_false (by have h_ := c9; have e1_ : (⟨#[32]⟩ : ByteArray).size = 1 := rfl; have e2_ : (⟨#[58, 32]⟩ : ByteArray).size = 2 := rfl; simp only [ByteArray.size_append] at h_; omega)
                  have H' := Aside0.mk H
                  clear H
                  try go_wp2
                  have n0_ := Aside0.mk (below_drew1 HB.out)
                  clear HB
                  have HB := n0_
                  clear n0_
                  have p141 : 0 ≤ (x6_1 : Int) := of_decide_eq_true (by first | (with_reducible assumption) | assumption)
                  have q141 : x6_1 < (l0.length : Int) := of_decide_eq_true (by first | (with_reducible assumption) | assumption)
                  obtain ⟨ad141, e141, hx141_0, hx141_1⟩ := at_T42 HR0.out x6_1 p141 q141
                  have hw141_1 := hx141_1
                  have hw141_0 := hx141_0
                  cases e141
                  replace hx141_0 := (HB.out.cell (World.block_lt_of_cell? w _ hx141_0)).trans hx141_0
                  replace hx141_1 := (HB.out.cell (World.block_lt_of_cell? w _ hx141_1)).trans hx141_1
                  replace p141 := eq_true p141
                  replace q141 := eq_true q141
                  have p142 : 0 ≤ (x6_1 : Int) := of_decide_eq_true (by first | (with_reducible assumption) | assumption)
                  have q142 : x6_1 < (l0.length : Int) := of_decide_eq_true (by first | (with_reducible assumption) | assumption)
                  obtain ⟨ad142, e142, hx142_0, hx142_1⟩ := at_T42 HR0.out x6_1 p142 q142
                  have hw142_1 := hx142_1
                  have hw142_0 := hx142_0
                  obtain rfl : ad141 = ad142 := (by injection e142)
                  replace hx142_0 := (HB.out.cell (World.block_lt_of_cell? w _ hx142_0)).trans hx142_0
                  replace hx142_1 := (HB.out.cell (World.block_lt_of_cell? w _ hx142_1)).trans hx142_1
                  replace p142 := eq_true p142
                  replace q142 := eq_true q142
                  refine start_ (n := 17) (S := fun w' => w'.cell? (ad141.add ((x6_1).toNat * 2)) = some (.string ((rd_T42 l0 x6_1).f0)) ∧ w'.cell? ⟨(ad141.add ((x6_1).toNat * 2)).block, (ad141.add ((x6_1).toNat * 2)).off + 1, none⟩ = some (.int .i64 ((rd_T42 l0 x6_1).f1)) ∧ w'.cell? (ad141.add ((x6_1).toNat * 2)) = some (.string ((rd_T42 l0 x6_1).f0)) ∧ w'.cell? ⟨(ad141.add ((x6_1).toNat * 2)).block, (ad141.add ((x6_1).toNat * 2)).off + 1, none⟩ = some (.int .i64 ((rd_T42 l0 x6_1).f1))) (ds := []) #[false, false, false, false, false, false, false, false, false, false, false, false, false, false, false, false, false] (by kernel_rfl) rfl rfl ⟨((HB.out.cell (World.block_lt_of_cell? w _ hw141_0)).trans hw141_0), ((HB.out.cell (World.block_lt_of_cell? w _ hw141_1)).trans hw141_1), ((HB.out.cell (World.block_lt_of_cell? w _ hw142_0)).trans hw142_0), ((HB.out.cell (World.block_lt_of_cell? w _ hw142_1)).trans hw142_1)⟩ (fun hHeld => ?_); refine with_tabW marchlandref02_Text.tab5 marchlandref02_Text.bits5 (fun HT_ HW_ => ?_)
                  generalize wr.drew = w10 at HB hx141_0 hx141_1 hx142_0 hx142_1 hHeld ⊢
                  refine pure_ (i := 0) (N := some 13) (v := ?_) (a' := ?_) #[true, false, false, false, false, false, false, false, false, false, false, false, false, false, false, false, false] rfl rfl (any_of HT_.out (by kernel_rfl)) (fun _ _ _ h => h) (Or.inl ⟨by rfl, ?_⟩) ?_ ?_
                  rotate_left
                  · intro w'
                    go_simp
                    with_reducible rfl
                  rotate_left
                  · simp only [Act.put, List.setIfInBounds_toArray, List.set_cons_zero, List.set_cons_succ, i64_w, i32_w]
                    rfl
                  refine pure_ (i := 1) (N := some 14) (v := ?_) (a' := ?_) #[true, true, false, false, false, false, false, false, false, false, false, false, false, false, false, false, false] rfl rfl (any_of HT_.out (by kernel_rfl)) (fun _ _ _ h => h) (Or.inl ⟨by rfl, ?_⟩) ?_ ?_
                  rotate_left
                  · intro w'
                    go_simp
                    with_reducible rfl
                  rotate_left
                  · simp only [Act.put, List.setIfInBounds_toArray, List.set_cons_zero, List.set_cons_succ, i64_w, i32_w]
                    rfl
                  refine pure_ (i := 2) (N := some 15) (v := ?_) (a' := ?_) #[true, true, true, false, false, false, false, false, false, false, false, false, false, false, false, false, false] rfl rfl (any_of HT_.out (by kernel_rfl)) (fun _ _ _ h => h) (Or.inl ⟨by rfl, ?_⟩) ?_ ?_
                  rotate_left
                  · intro w'
                    go_simp
                    with_reducible rfl
                  rotate_left
                  · simp only [Act.put, List.setIfInBounds_toArray, List.set_cons_zero, List.set_cons_succ, i64_w, i32_w]
                    rfl
                  refine pure_ (i := 3) (N := some 16) (v := ?_) (a' := ?_) #[true, true, true, true, false, false, false, false, false, false, false, false, false, false, false, false, false] rfl rfl (any_of HT_.out (by kernel_rfl)) (fun _ _ _ h => h) (Or.inl ⟨by rfl, ?_⟩) ?_ ?_
                  rotate_left
                  · intro w'
                    go_simp
                    with_reducible rfl
                  rotate_left
                  · simp only [Act.put, List.setIfInBounds_toArray, List.set_cons_zero, List.set_cons_succ, i64_w, i32_w]
                    rfl
                  refine pure_ (i := 4) (N := some 17) (v := ?_) (a' := ?_) #[true, true, true, true, true, false, false, false, false, false, false, false, false, false, false, false, false] rfl rfl (any_of HT_.out (by kernel_rfl)) (fun _ _ _ h => h) (Or.inl ⟨by rfl, ?_⟩) ?_ ?_
                  rotate_left
                  · intro w'
                    go_simp
                    with_reducible rfl
                  rotate_left
                  · simp only [Act.put, List.setIfInBounds_toArray, List.set_cons_zero, List.set_cons_succ, i64_w, i32_w]
                    rfl
                  refine pure_ (i := 8) (N := some 21) (v := ?_) (a' := ?_) #[true, true, true, true, true, false, false, false, true, false, false, false, false, false, false, false, false] rfl rfl (any_of HT_.out (by kernel_rfl)) (fun _ _ _ h => h) (Or.inl ⟨by rfl, ?_⟩) ?_ ?_
                  rotate_left
                  · intro w'
                    go_simp
                    with_reducible rfl
                  rotate_left
                  · simp only [Act.put, List.setIfInBounds_toArray, List.set_cons_zero, List.set_cons_succ, i64_w, i32_w]
                    rfl
                  refine pure_ (i := 9) (N := some 22) (v := ?_) (a' := ?_) #[true, true, true, true, true, false, false, false, true, true, false, false, false, false, false, false, false] rfl rfl (any_of HT_.out (by kernel_rfl)) (fun _ _ _ h => h) (Or.inl ⟨by rfl, ?_⟩) ?_ ?_
                  rotate_left
                  · intro w'
                    go_simp
                    with_reducible rfl
                  rotate_left
                  · simp only [Act.put, List.setIfInBounds_toArray, List.set_cons_zero, List.set_cons_succ, i64_w, i32_w]
                    rfl
                  refine pure_ (i := 10) (N := some 23) (v := ?_) (a' := ?_) #[true, true, true, true, true, false, false, false, true, true, true, false, false, false, false, false, false] rfl rfl (any_of HT_.out (by kernel_rfl)) (fun _ _ _ h => h) (Or.inl ⟨by rfl, ?_⟩) ?_ ?_
                  rotate_left
                  · intro w'
                    go_simp
                    with_reducible rfl
                  rotate_left
                  · simp only [Act.put, List.setIfInBounds_toArray, List.set_cons_zero, List.set_cons_succ, i64_w, i32_w]
                    rfl
                  refine pure_ (i := 11) (N := some 24) (v := ?_) (a' := ?_) #[true, true, true, true, true, false, false, false, true, true, true, true, false, false, false, false, false] rfl rfl (any_of HT_.out (by kernel_rfl)) (fun _ _ _ h => h) (Or.inl ⟨by rfl, ?_⟩) ?_ ?_
                  rotate_left
                  · intro w'
                    go_simp
                    with_reducible rfl
                  rotate_left
                  · simp only [Act.put, List.setIfInBounds_toArray, List.set_cons_zero, List.set_cons_succ, i64_w, i32_w]
                    rfl
                  refine take_ (i := 5) (N := some 18) (v := ?_) (a' := ?_) #[true, true, true, true, true, true, false, false, true, true, true, true, false, false, false, false, false] rfl rfl (take_ofW HT_.out HW_.out (by kernel_rfl)) (fun _ _ _ h => h) (Or.inl ⟨by rfl, ?_⟩) hHeld ?_ ?_
                  rotate_left
                  · rintro w' ⟨s0, s1, s2, s3⟩
                    go_simp
                    with_reducible rfl
                  rotate_left
                  · simp only [Act.put, List.setIfInBounds_toArray, List.set_cons_zero, List.set_cons_succ, i64_w, i32_w]
                    rfl
                  refine pure_ (i := 6) (N := some 19) (v := ?_) (a' := ?_) #[true, true, true, true, true, true, true, false, true, true, true, true, false, false, false, false, false] rfl rfl (any_of HT_.out (by kernel_rfl)) (fun _ _ _ h => h) (Or.inl ⟨by rfl, ?_⟩) ?_ ?_
                  rotate_left
                  · intro w'
                    go_simp
                    with_reducible rfl
                  rotate_left
                  · simp only [Act.put, List.setIfInBounds_toArray, List.set_cons_zero, List.set_cons_succ, i64_w, i32_w]
                    rfl
                  refine pure_ (i := 7) (N := some 20) (v := ?_) (a' := ?_) #[true, true, true, true, true, true, true, true, true, true, true, true, false, false, false, false, false] rfl rfl (any_of HT_.out (by kernel_rfl)) (fun _ _ _ h => h) (Or.inl ⟨by rfl, ?_⟩) ?_ ?_
                  rotate_left
                  · intro w'
                    go_simp
                    with_reducible rfl
                  rotate_left
                  · simp only [Act.put, List.setIfInBounds_toArray, List.set_cons_zero, List.set_cons_succ, i64_w, i32_w]
                    rfl
                  refine take_ (i := 12) (N := some 25) (v := ?_) (a' := ?_) #[true, true, true, true, true, true, true, true, true, true, true, true, true, false, false, false, false] rfl rfl (take_ofW HT_.out HW_.out (by kernel_rfl)) (fun _ _ _ h => h) (Or.inl ⟨by rfl, ?_⟩) hHeld ?_ ?_
                  rotate_left
                  · rintro w' ⟨s0, s1, s2, s3⟩
                    go_simp
                    with_reducible rfl
                  rotate_left
                  · simp only [Act.put, List.setIfInBounds_toArray, List.set_cons_zero, List.set_cons_succ, i64_w, i32_w]
                    rfl
                  refine one_ (i := 13) (N := some 26) #[true, true, true, true, true, true, true, true, true, true, true, true, true, true, false, false, false] rfl rfl (one_of HT_.out (by kernel_rfl)) (by decide) (fun K hK => ?_)
                  refine goes_ Tryd.func56 (by kernel_rfl) rfl #[.int .i64 ((rd_T42 l0 x6_1).f1)] (by rfl) rfl rfl (by (try simp only [List.map_toArray, List.map_cons, List.map_nil]); first | done | rfl | (simp only [List.length_drop, List.length_take]; rfl)) ?_
                  with_reducible refine (marchlandref02_Num.calls k1 ((rd_T42 l0 x6_1).f1) t143 _ A7.out).mono ?_
                  rintro e w11 ⟨rfl, hb⟩
                  refine ⟨_, rfl, ?_⟩
                  have n0_ := Aside0.mk (below_step (by repeat (first | (with_reducible first | exact HB.out | apply below_alloc | apply pw_below_drewN | apply below_drew1) | exact HB.out)) hb)
                  clear HB
                  have HB := n0_
                  clear n0_
                  (try clear hb)
                  (try clear hb2)
                  (try clear hk)
                  (try clear hi)
                  refine hK.out _ _ ⟨((HB.out.cell (World.block_lt_of_cell? w _ hw141_0)).trans hw141_0), ((HB.out.cell (World.block_lt_of_cell? w _ hw141_1)).trans hw141_1), ((HB.out.cell (World.block_lt_of_cell? w _ hw142_0)).trans hw142_0), ((HB.out.cell (World.block_lt_of_cell? w _ hw142_1)).trans hw142_1)⟩ (fun hHeld => ?_)
                  clear hK K
                  refine norm_ (a' := ?_) ?_ ?_
                  rotate_left
                  · show Act.put _ (some 26) _ = _
                    simp only [Act.put, List.setIfInBounds_toArray, List.set_cons_zero, List.set_cons_succ, i64_w, i32_w]
                    rfl
                  refine pure_ (i := 14) (N := some 27) (v := ?_) (a' := ?_) #[true, true, true, true, true, true, true, true, true, true, true, true, true, true, true, false, false] rfl rfl (any_of HT_.out (by kernel_rfl)) (fun _ _ _ h => h) (Or.inl ⟨by rfl, ?_⟩) ?_ ?_
                  rotate_left
                  · intro w'
                    go_simp
                    with_reducible rfl
                  rotate_left
                  · simp only [Act.put, List.setIfInBounds_toArray, List.set_cons_zero, List.set_cons_succ, i64_w, i32_w]
                    rfl
                  refine pure_ (i := 15) (N := some 28) (v := ?_) (a' := ?_) #[true, true, true, true, true, true, true, true, true, true, true, true, true, true, true, true, false] rfl rfl (any_of HT_.out (by kernel_rfl)) (fun _ _ _ h => h) (Or.inl ⟨by rfl, ?_⟩) ?_ ?_
                  rotate_left
                  · intro w'
                    go_simp
                    with_reducible rfl
                  rotate_left
                  · simp only [Act.put, List.setIfInBounds_toArray, List.set_cons_zero, List.set_cons_succ, i64_w, i32_w]
                    rfl
                  refine pure_ (i := 16) (N := some 5) (v := ?_) (a' := ?_) #[true, true, true, true, true, true, true, true, true, true, true, true, true, true, true, true, true] rfl rfl (any_of HT_.out (by kernel_rfl)) (fun _ _ _ h => h) (Or.inl ⟨by rfl, ?_⟩) ?_ ?_
                  rotate_left
                  · intro w'
                    go_simp
                    with_reducible rfl
                  rotate_left
                  · simp only [Act.put, List.setIfInBounds_toArray, List.set_cons_zero, List.set_cons_succ, i64_w, i32_w]
                    rfl
                  refine done_ (done_of HT_.out (by kernel_rfl)) ?_
                  try go_wp2
                  go_roundg k1
                  case measure => have := HK1.out; omega
                  case rel => exact ⟨((((x5_1 ++ ((rd_T42 l0 x6_1).f0)) ++ (⟨#[32]⟩ : ByteArray)) ++ t143) ++ (⟨#[58, 32]⟩ : ByteArray)), (wrap64 (x6_1 + 1)), (by first | rfl | (simp; done) | (simp [*]; done)), (by first | rfl | (simp; done) | (simp [*]; done)), H', ⟨by have := HK1.out; omega⟩, ⟨by repeat (first | (with_reducible first | exact HB.out | apply below_alloc | apply pw_below_drewN | apply below_drew1) | exact HB.out)⟩⟩
                · rw [if_neg c9] at H
                  exact absurd H (by simp)
              · rw [if_neg c8] at H
                exact absurd H (by simp)
            · rw [if_neg c6] at H
              exact absurd H (by simp)
          · rw [if_neg c5] at H
            exact absurd H (by simp)
        · rw [if_neg c4] at H
          exact absurd H (by simp)
      · rw [if_neg c3] at H
        have c3b0 : decide (x6_1 < (l0.length : Int)) = false := decide_eq_false c3
        clear c3
        replace H := Option.bind_eq_some_iff.mp H
        obtain ⟨t144, A120, H⟩ := H
        replace H : (if x5_1.size + t144.size ≤ 9223372036854775807 then (some (x5_1 ++ t144)) else (none)) = some r := H
        have A12 := Aside0.mk A120
        clear A120
        by_cases c13 : x5_1.size + t144.size ≤ 9223372036854775807
        · rw [if_pos c13] at H
          have c13b0 := eq_true c13
          have c13b1 : decide (x5_1.size + t144.size ≤ 9223372036854775807) = true := decide_eq_true c13
          try have c13b2 : (9223372036854775807 < x5_1.size + t144.size) = False := eq_false (Nat.not_lt.2 c13)
          obtain rfl := Option.some.inj H
          go_wp2_with (first | ((with_reducible refine gate_callee (f := 57) rfl ?_); refine goesL_ (some 31) rfl rfl Tryd.func57 (by kernel_rfl) rfl #[.int .i64 a1] rfl (by (try simp only [List.map_toArray, List.map_cons, List.map_nil]); first | done | rfl | (simp only [List.length_drop, List.length_take]; rfl)) ?_; (with_reducible refine (marchlandref02_Word.calls a1 t144 _ A12.out).mono ?_); rintro e w14 ⟨rfl, hb⟩; refine ⟨_, rfl, ?_⟩; have n0_ := Aside0.mk (below_step (by repeat (first | (with_reducible first | exact HB.out | apply below_alloc | apply pw_below_drewN | apply below_drew1) | exact HB.out)) hb); clear HB; have HB := n0_; clear n0_; (try clear hb); (try clear hb2); (try clear hk); (try clear hi)))
          go_ret
          exact ⟨by first | rfl | (simp [errW_none, errW_some] <;> rfl) | (simp [*, errW_none, errW_some] <;> rfl), by repeat (first | (with_reducible first | exact HB.out | apply below_alloc | apply pw_below_drewN | apply below_drew1) | exact HB.out)⟩
        · rw [if_neg c13] at H
          exact absurd H (by simp)
end Go.Proofs.YtgeldmhgbnamcaaDoor.Q
end
section
namespace Go.Proofs.YtgeldmhgbnamcaaDoor.P
open Go.RowKit Go.Proofs.YtgeldmhgbnamcaaDoorW.PrintWords Go.Proofs.YtgeldmhgbnamcaaDoorW.PrintLast Go.Proofs.YtgeldmhgbnamcaaDoorW.PrintMore
open Go.Proofs.YtgeldmhgbnamcaaDoor.Q (S42 k42 z42 rd_T42 marchlandref01_Num.f marchlandref02_Num.f marchlandref02_Word.f marchlandref02_Text.l0 marchlandref02_Text.f)
set_option linter.unusedVariables false
set_option linter.unusedSimpArgs false
theorem dig_cutF : ∀ d : Fin 10, (⟨#[48, 49, 50, 51, 52, 53, 54, 55, 56, 57]⟩ : ByteArray).extract d.val (d.val + 1) = ⟨#[UInt8.ofNat (48 + d.val)]⟩ := by decide +kernel
theorem dig_cut (d : Nat) (h : d < 10) : (⟨#[48, 49, 50, 51, 52, 53, 54, 55, 56, 57]⟩ : ByteArray).extract d (d + 1) = ⟨#[UInt8.ofNat (48 + d)]⟩ := dig_cutF ⟨d, h⟩
theorem num_ev : ∀ (k u : Nat), Lib.nDigits u ≤ k → u < 18446744073709551616 → marchlandref01_Num.f k (u : Int) = some (numS u) := by
  intro k
  induction k with
  | zero => intro u h; have := Lib.nDigits_pos u; omega
  | succ k ih =>
    intro u h hu
    rw [marchlandref01_Num.f]
    by_cases c : u < 10
    · have e : IntKind.u64.wrap ((u : Int) + 1) = ((u + 1 : Nat) : Int) := by rw [IntKind.wrap_u64]; omega
      rw [if_pos (by omega), if_pos (by omega), e, if_pos (by omega), if_pos (by omega), Int.toNat_natCast, Int.toNat_natCast, dig_cut u c, numS_small u c]
    · have e1 : IntKind.u64.wrap (Int.tdiv (u : Int) 10) = ((u / 10 : Nat) : Int) := by rw [IntKind.wrap_u64, Int.tdiv_eq_ediv_of_nonneg (by omega)]; omega
      have e2 : Int.tmod (u : Int) 10 = ((u % 10 : Nat) : Int) := by rw [Int.tmod_eq_emod_of_nonneg (by omega)]; omega
      have e3 : IntKind.u64.wrap (((u % 10 : Nat) : Int) + 1) = ((u % 10 + 1 : Nat) : Int) := by rw [IntKind.wrap_u64]; omega
      have hs := numS_size (u / 10) (by omega)
      rw [if_neg (by omega), e1, ih (u / 10) (by rw [Lib.nDigits_big c] at h; omega) (by omega), Option.bind_some, e2, e3, if_pos (by omega), if_pos (by omega), if_pos (by omega), Int.toNat_natCast, Int.toNat_natCast, dig_cut _ (by omega)]
      rw [if_pos (by have : (⟨#[UInt8.ofNat (48 + u % 10)]⟩ : ByteArray).size = 1 := rfl; omega), numS_big u c]
theorem num2_ev (k : Nat) (hk : 20 ≤ k) (n : Int) (h0 : -9223372036854775808 ≤ n) (h1 : n ≤ 9223372036854775807) : marchlandref02_Num.f k n = some (itoaG n) := by
  unfold marchlandref02_Num.f
  by_cases c : n < 0
  · have e : IntKind.u64.wrap ((IntKind.u64.wrap (wrap64 (-(wrap64 (n + 1))))) + 1) = ((n.natAbs : Nat) : Int) := by rw [IntKind.wrap_u64, IntKind.wrap_u64]; unfold wrap64; omega
    have hs := numS_size n.natAbs (by omega)
    rw [if_pos c, e, num_ev k _ (Nat.le_trans (Lib.nDigits_le20 _ (by omega)) hk) (by omega), Option.bind_some, if_pos (by omega), itoaG_neg n c]
  · have e : IntKind.u64.wrap n = ((n.toNat : Nat) : Int) := by rw [IntKind.wrap_u64]; omega
    rw [if_neg c, e, num_ev k _ (Nat.le_trans (Lib.nDigits_le20 _ (by omega)) hk) (by omega), Option.bind_some, itoaG_nonneg n (by omega)]
theorem word_ev (k : Int) (h0 : 0 ≤ k) (h1 : k < 15) : marchlandref02_Word.f k = some (wordOf k) := by
  have hk : k = 0 ∨ k = 1 ∨ k = 2 ∨ k = 3 ∨ k = 4 ∨ k = 5 ∨ k = 6 ∨ k = 7 ∨ k = 8 ∨ k = 9 ∨ k = 10 ∨ k = 11 ∨ k = 12 ∨ k = 13 ∨ k = 14 := by omega
  rcases hk with rfl | rfl | rfl | rfl | rfl | rfl | rfl | rfl | rfl | rfl | rfl | rfl | rfl | rfl | rfl <;> rfl
def toP (p : S42) : S41 := ⟨p.f0, p.f1⟩
theorem text_l0 (L : List S42) (k : Int) (h0 : 0 ≤ k) (h1 : k < 15) (hl : L.length ≤ 12) (hz : ∀ p ∈ L, p.f0.size ≤ 20) (hn : ∀ p ∈ L, -9223372036854775808 ≤ p.f1 ∧ p.f1 ≤ 9223372036854775807) :
    ∀ (d i m : Nat), L.length = i + d → 21 + d ≤ m → marchlandref02_Text.l0 (m + 1) L k (pathG (L.map toP) i) (i : Int) = some (pathG (L.map toP) L.length ++ wordOf k) := by
  have hz2 : ∀ p ∈ L.map toP, p.f0.size ≤ 20 := by intro p hp; obtain ⟨q, hq, rfl⟩ := List.mem_map.1 hp; exact hz q hq
  have hn2 : ∀ p ∈ L.map toP, -9223372036854775808 ≤ p.f1 ∧ p.f1 ≤ 9223372036854775807 := by intro p hp; obtain ⟨q, hq, rfl⟩ := List.mem_map.1 hp; exact hn q hq
  have hps := fun i (hi : i ≤ (L.map toP).length) => pathG_size (L.map toP) 20 hz2 hn2 i hi
  rw [List.length_map] at hps
  have hw := wordOf_size k h0 h1
  intro d
  induction d with
  | zero =>
    intro i m hi hm
    have := hps i (by omega)
    rw [marchlandref02_Text.l0, if_neg (by omega), word_ev k h0 h1, Option.bind_some, if_pos (by omega), show i = L.length by omega]
  | succ d ih =>
    intro i m hi hm
    have hlt : i < L.length := by omega
    have s0 := hps i (by omega)
    have hr : rd_T42 L (i : Int) = L[i] := by unfold rd_T42; rw [Int.toNat_natCast, List.getD_eq_getElem?_getD, List.getElem?_eq_getElem hlt]; rfl
    have hm1 := List.getElem_mem hlt
    have z1 := hz _ hm1
    have n1 := hn _ hm1
    have s1 := itoaG_size _ n1.1 n1.2
    have e1 : (⟨#[32]⟩ : ByteArray).size = 1 := rfl
    have e2 : (⟨#[58, 32]⟩ : ByteArray).size = 2 := rfl
    rw [marchlandref02_Text.l0, if_pos (by omega), if_pos (by omega), hr, if_pos (by omega), if_pos (by simp only [ByteArray.size_append]; omega)]
    rw [num2_ev m (by omega) _ n1.1 n1.2, Option.bind_some, if_pos (by simp only [ByteArray.size_append]; omega), if_pos (by simp only [ByteArray.size_append]; omega)]
    have hp := pathG_succ (L.map toP) (i : Int) (by omega) (by rw [List.length_map]; omega)
    rw [show ((i : Int) + 1).toNat = i + 1 by omega, Int.toNat_natCast] at hp
    have hr2 : rd_T41 (L.map toP) (i : Int) = toP (L[i]) := by unfold rd_T41; rw [Int.toNat_natCast, List.getD_eq_getElem?_getD, List.getElem?_map, List.getElem?_eq_getElem hlt]; rfl
    rw [hr2] at hp
    have hq : ((((pathG (L.map toP) i ++ (L[i]).f0) ++ (⟨#[32]⟩ : ByteArray)) ++ itoaG (L[i]).f1) ++ (⟨#[58, 32]⟩ : ByteArray)) = pathG (L.map toP) (i + 1) := by
      rw [hp]
      unfold placeG toP
      simp only [ByteArray.append_assoc]
    rw [hq, show wrap64 ((i : Int) + 1) = ((i + 1 : Nat) : Int) by unfold wrap64; omega]
    obtain ⟨m', rfl⟩ : ∃ m', m = m' + 1 := ⟨m - 1, by omega⟩
    exact ih (i + 1) m' (by omega) (by omega)
theorem text_ev (L : List S42) (k : Int) (h0 : 0 ≤ k) (h1 : k < 15) (hl : L.length ≤ 12) (hz : ∀ p ∈ L, p.f0.size ≤ 20) (hn : ∀ p ∈ L, -9223372036854775808 ≤ p.f1 ∧ p.f1 ≤ 9223372036854775807) :
    marchlandref02_Text.f 40 L k = some (pathG (L.map toP) L.length ++ wordOf k) := by
  have h := text_l0 L k h0 h1 hl hz hn L.length 0 39 (by omega) (by omega)
  exact h
theorem fewL_ok (l : List S42) (hq : ∀ y ∈ l, -9223372036854775808 ≤ y.f1 ∧ y.f1 ≤ 9223372036854775807) : (∀ p ∈ fewL l, p.f0.size ≤ 20) ∧ ∀ p ∈ fewL l, -9223372036854775808 ≤ p.f1 ∧ p.f1 ≤ 9223372036854775807 := by
  constructor
  · intro p hp
    obtain ⟨q, _, rfl⟩ := List.mem_map.1 hp
    exact few1_size q
  · intro p hp
    obtain ⟨q, h, rfl⟩ := List.mem_map.1 hp
    exact hq q (List.mem_of_mem_take h)
open Go.Proofs.YtgeldmhgbnamcaaDoor.Q (S42 k42)
set_option maxRecDepth 100000
def psOf (L : List S42) : List (ByteArray × Int) := L.map fun p => (p.f0, p.f1)
theorem psOf_len (L : List S42) : (psOf L).length = L.length := by unfold psOf; rw [List.length_map]
theorem psOf_next (L : List S42) (j : Nat) (hj : j < L.length) : ((L[j]).f0, (L[j]).f1) :: psOf (L.drop (j + 1)) = psOf (L.drop j) := by
  rw [List.drop_eq_getElem_cons hj]
  rfl
theorem psOf_toP (L : List S42) : ((psOf L).map fun p => (⟨p.1, p.2⟩ : S41)) = L.map toP := by
  unfold psOf
  rw [List.map_map]
  rfl
set_option maxHeartbeats 8000000 in
theorem Wrap_calls (A : Option Addr) (c : Nat) (L : List S42) (k : Int) (W : World) (hC : Kd.C k42 W A L.length L) (hlen : L.length ≤ 12) :
    Calls Tryd.prog 18 #[.slice A L.length c, .int .i64 k] W fun e w' => ∃ v, e = .returned v ∧ ErrIs w' (psOf L) v (.iface 33 (.int .i64 k)) ∧ Below W.heap.size W w' := by
  have HC := Aside0.mk hC
  clear hC
  have hw0 : IntKind.i64.wrap ((L.length : Int) - 1) = (L.length : Int) - 1 := by rw [IntKind.wrap_i64]; omega
  go_enter Tryd.func18, Tryd.ntmps18
  go_wp2
  go_loopw [5, 6] (fun v5 v6 wr => ∃ i : Int, v6 = .int .i64 i ∧ Aside0 (-1 ≤ i ∧ i < L.length ∧ ErrIs wr (psOf (L.drop (i + 1).toNat)) v5 (.iface 33 (.int .i64 k)) ∧ Below W.heap.size W wr)) (fun _ v6 _ => (intOf v6 + 1).toNat)
  case atStart => exact ⟨_, rfl, ⟨by omega, by omega, by rw [List.drop_eq_nil_of_le (by omega)]; rfl, Below.refl _ _⟩⟩
  case round =>
    obtain ⟨i, rfl, HI⟩ := hrel
    by_cases ci : 0 ≤ i
    · have hge := decide_eq_true ci
      obtain ⟨j, rfl⟩ : ∃ j : Nat, i = (j : Int) := ⟨i.toNat, by omega⟩
      have hj : j < L.length := by have := HI.out.2.1; omega
      obtain ⟨ad, rfl, hx0, hx1⟩ := few_at (Kd.C_below HC.out HI.out.2.2.2) j hj
      have q1 : (j : Int) < (L.length : Int) := by omega
      have hwi : IntKind.i64.wrap ((j : Int) - 1) = (j : Int) - 1 := by rw [IntKind.wrap_i64]; omega
      have HN := Aside0.mk (psOf_next L j hj)
      have hE := HI.out.2.2.1
      rw [show ((j : Int) + 1).toNat = j + 1 by omega] at hE
      have HEE := Aside0.mk hE
      generalize (L[j]).f0 = sj at hx0 HN
      generalize (L[j]).f1 = nj at hx1 HN
      have HJ := Aside0.mk hj
      obtain ⟨u, x, rfl⟩ := hE.iface
      have HAT := Aside0.mk (fun w' (hb : Below wr.heap.size wr w') => At_calls (psOf (L.drop (j + 1))) (.iface u x) 33 (.int .i64 k) sj nj w' (HEE.out.below hb))
      clear hE hj
      go_upto_region 5 with fail
      go_region_held3 (fun w' => (w'.cell? (ad.add (j * 2)) = some (.string sj) ∧ w'.cell? ⟨(ad.add (j * 2)).block, (ad.add (j * 2)).off + 1, none⟩ = some (.int .i64 nj)))
        (first | exact ⟨hx0, hx1⟩ | exact hS)
        (first | (go_at_call 27; ((with_reducible refine (HAT.out _ (below_drew (Below.refl _ _))).mono ?_); rintro e w6 ⟨v6, rfl, hE6, hb⟩; have HE6 := Aside0.mk hE6; have HB6 := Aside0.mk hb; have hS : w6.cell? (ad.add (j * 2)) = some (.string sj) ∧ w6.cell? ⟨(ad.add (j * 2)).block, (ad.add (j * 2)).off + 1, none⟩ = some (.int .i64 nj) := ⟨(hb.cell (World.block_lt_of_cell? wr _ hx0)).trans hx0, (hb.cell (p := ⟨(ad.add (j * 2)).block, (ad.add (j * 2)).off + 1, none⟩) (World.block_lt_of_cell? wr _ hx1)).trans hx1⟩; clear hE6 hb)))
      all_goals
        go_wp2
        go_roundw
        case rel => exact ⟨(j : Int) - 1, by first | rfl | exact congrArg _ hwi, ⟨by omega, by have := HJ.out; omega, by rw [show ((j : Int) - 1 + 1).toNat = j by omega, ← HN.out]; exact HE6.out, below_step (below_drew HI.out.2.2.2) HB6.out⟩⟩
        case measure => simp only [intOf]; omega
    · have hge := decide_eq_false ci
      have h := HI.out.2.2.1
      rw [show (i + 1).toNat = 0 by have := HI.out.1; omega, List.drop_zero] at h
      have HE := Aside0.mk h
      clear h
      have HB := Aside0.mk HI.out.2.2.2
      obtain ⟨u, x, rfl⟩ := HE.out.iface
      clear ci HI
      go_wp2
      go_ret
      exact ⟨_, rfl, HE.out, HB.out⟩
set_option maxRecDepth 100000
def toS : ByteArray := ⟨#[116, 111]⟩
def edgeS : ByteArray := ⟨#[101, 100, 103, 101]⟩
def tps : List (ByteArray × Int) := [(edgeS, 3), (toS, 9)]
theorem tps_ok : (∀ p ∈ tps, 0 ≤ p.2 ∧ p.2 < 10) ∧ ∀ p ∈ tps, p.1.size ≤ 1000 := by
  constructor <;> (intro p hp; rcases List.mem_cons.1 hp with rfl | hp <;> (first | decide | (rw [List.mem_singleton.1 hp]; decide)))
set_option maxHeartbeats 4000000 in
theorem told2_C (W : World) (hg : TypeVar W) : Calls Tryd.prog 19 #[] W fun e w' => e = .returned (.bool true) ∧ Below W.heap.size W w' := by
  have HG := Aside0.mk hg
  clear hg
  have A1 := Aside0.mk (show Calls Tryd.prog 27 #[.iface 33 (.int .i64 2), .string ⟨#[116, 111]⟩, .int .i64 9] W _ from At_calls [] (.iface 33 (.int .i64 2)) 33 (.int .i64 2) toS 9 W rfl)
  go_enter Tryd.func19, Tryd.ntmps19
  go_upto_region 2 with (first | (go_at_call 27; ((with_reducible refine A1.out.mono ?_); rintro e w1 ⟨v1, rfl, hE, hb⟩; have HE1 := Aside0.mk hE; have HB1 := Aside0.mk hb; have A2 := Aside0.mk (show Calls Tryd.prog 27 #[v1, .string ⟨#[101, 100, 103, 101]⟩, .int .i64 3] w1 _ from At_calls [(toS, 9)] v1 33 (.int .i64 2) edgeS 3 w1 HE1.out); clear hE hb)) | (go_at_call 27; ((with_reducible refine A2.out.mono ?_); rintro e w2 ⟨v2, rfl, hE, hb⟩; have HE2 := Aside0.mk (show ErrIs w2 tps v2 _ from hE); have HB2 := Aside0.mk (below_step HB1.out hb); clear hE hb)))
  obtain ⟨b, vi, rfl, -⟩ := HE2.out
  have TX := Aside0.mk (Text_calls tps _ 2 w2 HE2.out (HG.out.below HB2.out) (by decide) tps_ok.1 tps_ok.2 (by decide) (by decide))
  have TN := Aside0.mk (fun w => Text_nil w)
  have hlen : tps.length = 2 := rfl
  go_wp2_with (first | (go_at_call 22; ((with_reducible refine TX.out.mono ?_); rintro e w3 ⟨he, hb⟩; subst he; rw [show (pathT (tps.map fun p => ⟨p.1, p.2⟩) tps.length ++ wordOf 2) = ⟨#[101, 100, 103, 101, 32, 51, 58, 32, 116, 111, 32, 57, 58, 32, 112, 111, 114, 116]⟩ from by decide]; have HB3 := Aside0.mk (below_step HB2.out hb); have HE3 := Aside0.mk (HE2.out.below hb); have KD := Aside0.mk (Kind_calls tps _ 2 w3 HE3.out (HG.out.below HB3.out)); clear hb)) | (go_at_call 20; ((with_reducible refine KD.out.mono ?_); rintro e w4 ⟨rfl, hb⟩; have HB4 := Aside0.mk (below_step HB3.out hb); have HE4 := Aside0.mk (HE3.out.below hb); have PC := Aside0.mk (Path_calls tps _ 2 w4 HE4.out (by decide)); clear hb)) | (go_at_call 24; ((with_reducible refine PC.out.mono ?_); rintro e w5 ⟨v5, rfl, hr, hb⟩; obtain ⟨A5, c5, e5⟩ := Kd.R_slice hr; rw [List.length_map, hlen] at e5; subst e5; have HB5 := Aside0.mk (below_step HB4.out hb); have HE5 := Aside0.mk (HE4.out.below hb); clear hr hb)) | (go_at_call 22; ((with_reducible refine (TN.out _).mono ?_); rintro e w6 ⟨rfl, hb⟩; have HB6 := Aside0.mk (below_step HB5.out hb); have IS := Aside0.mk (fIs_calls tps _ 2 1 (by decide) w6 (HE5.out.below hb)); clear hb)) | (go_at_call 21; ((with_reducible refine IS.out.mono ?_); rintro e w7 ⟨rfl, hw⟩; obtain rfl := hw.symm)))
  go_ret
  exact ⟨rfl, HB6.out⟩
set_option maxRecDepth 100000
theorem kind_num (a : Int) : ∃ m : Nat, m < 14 ∧ IntKind.i64.wrap (Int.tmod (IntKind.u64.wrap a) 14) = (m : Int) ∧ IntKind.i64.wrap (1 + (m : Int)) = ((m + 1 : Nat) : Int) := by
  have h0 : 0 ≤ IntKind.u64.wrap a := by simp [IntKind.wrap, IntKind.bits, IntKind.signed]; omega
  have h1 := Int.tmod_nonneg 14 h0
  have h2 := Int.tmod_lt_of_pos (IntKind.u64.wrap a) (show (0 : Int) < 14 by decide)
  refine ⟨(Int.tmod (IntKind.u64.wrap a) 14).toNat, by omega, ?_, ?_⟩
  · rw [IntKind.wrap_i64]; omega
  · rw [IntKind.wrap_i64]; omega
theorem path_at {w : World} {A : Option Addr} {l : List S41} (hC : Kd.C k41 w A l.length l) (L : List S42) (hl : l = L.map toP) (i : Nat) (hi : i < L.length) : ∃ ad : Addr, A = some ad ∧ w.cell? (ad.add (i * 2)) = some (.string (L[i]).f0) ∧ w.cell? ⟨(ad.add (i * 2)).block, (ad.add (i * 2)).off + 1, none⟩ = some (.int .i64 (L[i]).f1) := by
  subst hl
  obtain ⟨ad, e, h0, h1⟩ := at_T41 hC (i : Int) (by omega) (by rw [List.length_map]; omega)
  have hr : rd_T41 (L.map toP) (i : Int) = toP (L[i]) := by unfold rd_T41; rw [Int.toNat_natCast, List.getD_eq_getElem?_getD, List.getElem?_map, List.getElem?_eq_getElem hi]; rfl
  rw [Int.toNat_natCast, hr] at h0 h1
  exact ⟨ad, e, h0, h1⟩
theorem psOf_ok {L : List S42} (h : (∀ p ∈ L, p.f0.size ≤ 20) ∧ ∀ p ∈ L, -9223372036854775808 ≤ p.f1 ∧ p.f1 ≤ 9223372036854775807) : (∀ p ∈ psOf L, -9223372036854775808 ≤ p.2 ∧ p.2 ≤ 9223372036854775807) ∧ ∀ p ∈ psOf L, p.1.size ≤ 1000 := by
  constructor
  · intro p hp
    obtain ⟨q, hq, rfl⟩ := List.mem_map.1 hp
    exact h.2 q hq
  · intro p hp
    obtain ⟨q, hq, rfl⟩ := List.mem_map.1 hp
    exact Nat.le_trans (h.1 q hq) (by decide)
set_option maxHeartbeats 16000000 in
theorem FaultTells_calls (A : Option Addr) (c : Nat) (l : List S42) (kind other : Int) (W : World) (hC : Kd.C k42 W A l.length l) (hc : l.length ≤ c) (hg : TypeVar W) (ht : Tab10 W) (hq : ∀ y ∈ l, -9223372036854775808 ≤ y.f1 ∧ y.f1 ≤ 9223372036854775807) :
    Calls Tryd.prog 5 #[.slice A l.length c, .int .i64 kind, .int .i64 other] W fun e w' => e = .returned (.bool true) ∧ Below W.heap.size W w' := by
  obtain ⟨m1, hm1, e1, e2⟩ := kind_num kind
  obtain ⟨m2, hm2, e3, e4⟩ := kind_num other
  obtain ⟨kk, hk⟩ : ∃ x : Int, ((m1 + 1 : Nat) : Int) = x := ⟨_, rfl⟩
  obtain ⟨oo, ho⟩ : ∃ x : Int, ((m2 + 1 : Nat) : Int) = x := ⟨_, rfl⟩
  rw [hk] at e2
  rw [ho] at e4
  have HK := Aside0.mk (show 1 ≤ kk ∧ kk < 15 ∧ 1 ≤ oo from ⟨by omega, by omega, by omega⟩)
  have HG := Aside0.mk hg
  have HT := Aside0.mk ht
  have FW := Aside0.mk (few_C A c l W hC hc)
  have hok := fewL_ok l hq
  have hlen := fewL_len l
  clear hC hc hg ht hq hk ho
  generalize fewL l = L at FW hlen hok
  have HOK := Aside0.mk hok
  clear hok
  have k0 : ¬ kk = 0 := by have := HK.out; omega
  have o0 : ¬ oo = 0 := by have := HK.out; omega
  have hkk : (kk == kk) = true := beq_self_eq_true kk
  have hko : (kk == oo) = (oo == kk) := by rw [Bool.eq_iff_iff]; simp; exact eq_comm
  go_enter Tryd.func5, Tryd.ntmps5
  go_upto_region 3 with (first | (go_at_call 17; ((with_reducible refine FW.out.mono ?_); rintro e w1 ⟨A1, c1, rfl, hC, hc, hb⟩; have HC := Aside0.mk (show Kd.C k42 w1 A1 L.length L ∧ L.length ≤ c1 from ⟨hC, hc⟩); have HB1 := Aside0.mk hb; clear hC hc hb)))
  have WR := Aside0.mk (Wrap_calls A1 c1 L kk w1 HC.out.1 hlen)
  go_upto_region 4 with (first | (go_at_call 18; ((with_reducible refine WR.out.mono ?_); rintro e w2 ⟨v2, rfl, hE, hb⟩; have HE2 := Aside0.mk hE; have HB2 := Aside0.mk (below_step HB1.out hb); have HC2 := Aside0.mk (Kd.C_below HC.out.1 hb); obtain ⟨u2, x2, rfl⟩ := hE.iface; clear hE hb)))
  have T2 := Aside0.mk (told2_C w2 (HG.out.below HB2.out))
  have hpl : (psOf L).length ≤ 1000 := by rw [psOf_len]; omega
  obtain ⟨TX, hTX⟩ : ∃ TX, pathG (L.map toP) L.length ++ wordOf kk = TX := ⟨_, rfl⟩
  have hTE := text_ev L kk (by have := HK.out; omega) (by have := HK.out; omega) hlen HOK.out.1 HOK.out.2
  rw [hTX] at hTE
  have HTE := Aside0.mk hTE
  have HTX := Aside0.mk hTX
  have HPL := Aside0.mk hpl
  clear hTE hTX hpl
  go_upto_region 6 with (first
    | (go_at_call 19; ((with_reducible refine T2.out.mono ?_); rintro e w3 ⟨rfl, hb⟩; have HB3 := Aside0.mk (below_step HB2.out hb); have HE3 := Aside0.mk (HE2.out.below hb); have HC3 := Aside0.mk (Kd.C_below HC2.out hb); have K3 := Aside0.mk (Kind_calls (psOf L) _ kk w3 HE3.out (HG.out.below HB3.out)); clear hb))
    | (go_at_call 20; ((with_reducible refine K3.out.mono ?_); rintro e w4 ⟨rfl, hb⟩; have HB4 := Aside0.mk (below_step HB3.out hb); have HE4 := Aside0.mk (HE3.out.below hb); have HC4 := Aside0.mk (Kd.C_below HC3.out hb); have I4 := Aside0.mk (fIs_calls (psOf L) _ kk kk k0 w4 HE4.out); have J4 := Aside0.mk (fIs_ok u2 x2 w4); have L4 := Aside0.mk (fIs_calls (psOf L) _ kk oo o0 w4 HE4.out); rw [hkk] at I4; rw [hko] at L4; have X4 := Aside0.mk (TextG_calls (psOf L) _ 33 (.int .i64 kk) (fun w => e_assert33 _ w) kk w4 (HT.out.below HB4.out) HE4.out (fun w' hb' => Kind_calls (psOf L) _ kk w' (HE4.out.below hb') (HG.out.below (below_step HB4.out hb'))) HPL.out (psOf_ok HOK.out).1 (psOf_ok HOK.out).2 (by have := HK.out; omega) (by have := HK.out; omega)); rw [psOf_toP, psOf_len, HTX.out] at X4; clear hb))
    | (go_at_call 21; ((with_reducible refine I4.out.mono ?_); rintro e w' ⟨rfl, hw⟩; obtain rfl := hw.symm))
    | (go_at_call 21; ((with_reducible refine J4.out.mono ?_); rintro e w' ⟨rfl, hw⟩; obtain rfl := hw.symm))
    | (go_at_call 21; ((with_reducible refine L4.out.mono ?_); rintro e w' ⟨rfl, hw⟩; obtain rfl := hw.symm))
    | (go_at_call 22; ((with_reducible refine X4.out.mono ?_); rintro e w5 ⟨rfl, hb⟩; have HB5 := Aside0.mk (below_step HB4.out hb); have HE5 := Aside0.mk (HE4.out.below hb); have HC5 := Aside0.mk (Kd.C_below HC4.out hb); have R5 := Aside0.mk (Go.Proofs.YtgeldmhgbnamcaaDoor.Q.marchlandref02_Text.calls 40 A1 c1 L kk _ w5 HC5.out HC.out.2 HTE.out); clear hb))
    | (go_at_call 23; ((with_reducible refine R5.out.mono ?_); rintro e w6 ⟨rfl, hb⟩; have HB6 := Aside0.mk (below_step HB5.out hb); have HE6 := Aside0.mk (HE5.out.below hb); have HC6 := Aside0.mk (Kd.C_below HC5.out hb); clear hb)))
  have PC := Aside0.mk (Path_calls (psOf L) _ kk w6 HE6.out HPL.out)
  rw [psOf_toP] at PC
  clear T2 WR FW I4 J4 L4 X4 R5 K3
  go_upto_region 7 with (first | (go_at_call 24; ((with_reducible refine PC.out.mono ?_); rintro e w7 ⟨v7, rfl, hr, hb⟩; obtain ⟨A7, c7, e7⟩ := Kd.R_slice hr; have hr7 := (Kd.R_reads' (e7 ▸ hr)).2.2; rw [List.length_map] at e7; subst e7; have HP7 := Aside0.mk hr7; have HB7 := Aside0.mk (below_step HB6.out hb); have HE7 := Aside0.mk (HE6.out.below hb); have HC7 := Aside0.mk (Kd.C_below HC6.out hb); clear hr hr7 hb)))
  clear PC
  go_wp2
  go_loopw [11] (fun v11 wr => ∃ i : Nat, v11 = .int .i64 (i : Int) ∧ Aside0 (i ≤ L.length ∧ Below w7.heap.size w7 wr)) (fun v11 _ => (20 - intOf v11).toNat)
  case atStart => exact ⟨0, rfl, ⟨Nat.zero_le _, Below.refl _ _⟩⟩
  case round =>
    obtain ⟨i, rfl, HI⟩ := hrel
    by_cases ci : i < L.length
    · have d1 := decide_eq_true (show (i : Int) < (L.length : Int) by omega)
      obtain ⟨ad, rfl, hx0, hx1⟩ := path_at (Kd.C_below HP7.out HI.out.2) L rfl i ci
      obtain ⟨ae, rfl, hy0, hy1⟩ := few_at (Kd.C_below HC7.out HI.out.2) i ci
      have q0 : (0 : Int) ≤ (i : Int) := by omega
      have q1 : (i : Int) < (L.length : Int) := by omega
      have hwi : IntKind.i64.wrap ((i : Int) + 1) = (i : Int) + 1 := by rw [IntKind.wrap_i64]; omega
      generalize (L[i]).f0 = sj at hx0 hy0
      generalize (L[i]).f1 = nj at hx1 hy1
      have HJ := Aside0.mk ci
      go_upto_region 12 with fail
      go_region_held3 (fun w' => (w'.cell? (ad.add (i * 2)) = some (.string sj) ∧ w'.cell? ⟨(ad.add (i * 2)).block, (ad.add (i * 2)).off + 1, none⟩ = some (.int .i64 nj)) ∧ (w'.cell? (ae.add (i * 2)) = some (.string sj) ∧ w'.cell? ⟨(ae.add (i * 2)).block, (ae.add (i * 2)).off + 1, none⟩ = some (.int .i64 nj)))
        (first | exact ⟨⟨hx0, hx1⟩, ⟨hy0, hy1⟩⟩ | assumption)
        (fail)
      all_goals
        go_wp2
        go_roundw
        case rel => exact ⟨i + 1, by first | rfl | exact congrArg _ hwi, ⟨by have := HJ.out; omega, below_drew HI.out.2⟩⟩
        case measure => have := HJ.out; simp only [intOf]; omega
    · have d1 := decide_eq_false (show ¬ (i : Int) < (L.length : Int) by omega)
      have HB8 := Aside0.mk (below_step HB7.out HI.out.2)
      have HE8 := Aside0.mk (HE7.out.below HI.out.2)
      have q1 : ¬ (i : Int) < (L.length : Int) := by omega
      clear HI
      have HB9 := Aside0.mk (below_alloc (Below.refl wr.heap.size wr) (.cells #[.int .i64 0] 33))
      have hIS := Is_calls (psOf L) (.iface u2 x2) kk kk (wr.alloc (.cells #[.int .i64 0] 33)) (HE8.out.below HB9.out)
      rw [hkk] at hIS
      have HIS := Aside0.mk hIS
      have HAS := Aside0.mk (As_calls (psOf L) (.iface u2 x2) ⟨wr.heap.size, 0, none⟩ kk (.int .i64 0) (wr.alloc (.cells #[.int .i64 0] 33)) (HE8.out.below HB9.out) ((HG.out.below HB8.out).below HB9.out) (by simp [go_sem]) (by simp))
      have hlt : wr.heap.size < (wr.alloc (.cells #[.int .i64 0] 33)).heap.size := by simp
      have hce : (wr.alloc (.cells #[.int .i64 0] 33)).cell? ⟨wr.heap.size, 0, none⟩ = some (.int .i64 0) := by simp [go_sem]
      have HBL := Aside0.mk (below_step HB8.out HB9.out)
      clear hIS
      go_wp2_with (first | (go_at_call 25; ((with_reducible refine HIS.out.mono ?_); rintro e w' ⟨rfl, hw⟩; obtain rfl := hw.symm)) | (go_at_call 26; refine HAS.out.mono ?_; rintro e w' ⟨rfl, w9, hb, rfl⟩; have HB10 := Aside0.mk (below_step HBL.out hb); have hc2 := (hb.cell (p := ⟨wr.heap.size, 0, none⟩) hlt).trans hce; have hc3 : (w9.setCell ⟨wr.heap.size, 0, none⟩ (.int .i64 kk)).cell? ⟨wr.heap.size, 0, none⟩ = some (.int .i64 kk) := cell_put hc2; clear hb))
      go_ret
      exact ⟨rfl, below_set HB10.out (by have := HB8.out.size; omega)⟩
open Go.ChangeShapes Go.WideShapes Go.Deep
open Go.Proofs.YtgeldmhgbnamcaaDoor.Q (S42 k42 z42)
instance inh42 : Inhabited S42 := ⟨z42⟩
theorem opens42 : Opens Tryd.prog 42 k42 (fun x => -9223372036854775808 ≤ x.f1 ∧ x.f1 ≤ 9223372036854775807) :=
  (Opens.iso (Opens.struct (d := Kd.pair Kd.string (Kd.int .i64)) Tryd.underlying42 (by kernel_rfl)
    (OpensSeg.cons rfl (by kernel_rfl) (by decide) (Opens.string Tryd.underlying9) (OpensSeg.one rfl (by kernel_rfl) (opens_i64 Tryd.underlying3))))
    (fun x : S42 => (x.f0, x.f1)) (fun y => ⟨y.1, y.2⟩) (fun _ => rfl)).imp fun _ h => h.2
theorem opens28 : Opens Tryd.prog 28 (Kd.slice 42 k42) (fun l => l.length ≤ maxLen ∧ ∀ y ∈ l, -9223372036854775808 ≤ y.f1 ∧ y.f1 ≤ 9223372036854775807) :=
  Opens.slice Tryd.underlying28 (by kernel_rfl) opens42
open Go.RowKit Go.Deep
theorem tab10_of_laid {W : World} (h : laidMetH Tryd.prog listH W) : Tab10 W := by
  have h' : laidMet Tryd.prog dataL W ∧ handlesMet Tryd.prog [("errors.errorType", Rows.laid_errors_errorType)] W := h
  have h2 : laidMet Tryd.prog [("internal/strconv.uint64pow10", Lib.tabData .u64 Lib.pow10Tab)] W := h'.1.tail.tail
  exact Lib.tabIs_of_head (g := 3) (t := 200) (e := 22) (n := 20) (by kernel_rfl) (by kernel_rfl) Tryd.underlying200 Tryd.underlying22 (by kernel_rfl) (by kernel_rfl) h2
open Go.RowKit Go.Proofs.YtgeldmhgbnamcaaDoorW.PrintWords
def marchlandlaw02_FaultTells.f (_k : Nat) (_l : List S42) (_a _b : Int) : Option Bool := some true
theorem marchlandlaw02_FaultTells.calls (k : Nat) (A : Option Addr) (c : Nat) (l : List S42) (a b : Int) (r : Bool) (w : World) (hC : Kd.C k42 w A l.length l) (hc : l.length ≤ c) (hq : ∀ y ∈ l, -9223372036854775808 ≤ y.f1 ∧ y.f1 ≤ 9223372036854775807) (hg : TypeVar w) (ht : Tab10 w) (h : marchlandlaw02_FaultTells.f k l a b = some r) :
    Calls Tryd.prog 5 #[.slice A l.length c, .int .i64 a, .int .i64 b] w fun e w' => e = .returned (.bool r) ∧ Below w.heap.size w w' := by
  obtain rfl := Option.some.inj h
  exact FaultTells_calls A c l a b w hC hc hg ht hq
end Go.Proofs.YtgeldmhgbnamcaaDoor.P
namespace Go.Proofs.YtgeldmhgbnamcaaDoor.Pure
open Go.Proofs.YtgeldmhgbnamcaaDoor.Q (S42)
theorem FaultTells (l : List S42) (a b : Int) : ∃ k, P.marchlandlaw02_FaultTells.f k l a b = some true := ⟨0, rfl⟩
end Go.Proofs.YtgeldmhgbnamcaaDoor.Pure
end
