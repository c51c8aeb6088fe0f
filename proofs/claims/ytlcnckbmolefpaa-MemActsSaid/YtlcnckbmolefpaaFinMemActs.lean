/- MemActs: the law answers true whatever it is given, and leaves its arguments as they were. No condition. -/
import Derived.Test.YtlcnckbmolefpaaRows
import Derived.WalkKit
import Derived.ProofKit
import Derived.OpenShut
import Derived.ShutString
import Derived.ChangeOld
import Derived.Below
import Derived.SizedLaws
import Derived.Test.YtlcnckbmolefpaaProg
import Derived.Deep.Draws
import Derived.Deep.AppendLies
import Derived.Maps.AppendAt
import Derived.OwnWalk
import Derived.Laws.BytesArg
import Derived.Laws.MakeOwn
import Derived.Laws.OwnMore
import Derived.Deep.OwnRows
import Derived.Tactics
import Derived.Lib.ConvBytes
import Derived.Laws.Slices
import Derived.KernelRfl
import Derived.RowKit3
import Derived.Deep.LoopGhost
import Derived.Deep.QuietTactic
import Derived.BigQuiet
import Derived.WideLaws
import Derived.Deep.DeepCutAuto
import Derived.Deep.CutBlock
import Derived.Deep.RegionHeld3
import Derived.Laws.Rows
import Derived.Lib.AppendStr
import Derived.ArgAppend
import Derived.Laws.IdiomCopy
import Derived.OrdersHeld
import Derived.Laws.BitsLemmas
import Derived.RowKit
import Derived.Laws.StructEq
import Derived.Maps.RangeWalk
import Derived.Maps.OwnRows
import Derived.Maps.Views
import Derived.Maps.OwnSet
import Derived.IntWalk
import Derived.Shelf.SlMaps.Clone
import Derived.Laws.CopyOwn
import Derived.Deep.RegionLaw
import Derived.LoopTactic
import Derived.Outline
import Derived.Lib.BufferMore
import Derived.Deep.CutRange
import Derived.Deep.Slices
import Derived.Lib.SmallJoins
import Derived.Test.YtlcnckbmolefpaaMAa0
import Derived.Test.YtlcnckbmolefpaaMAa1
import Derived.Test.YtlcnckbmolefpaaMAa4
import Derived.Test.YtlcnckbmolefpaaMAa8
namespace Go.Proofs.Ytlcnckbmolefpaa.memActs
open Go.ChangeShapes Go.WideShapes Go.ChangeAt Go.RowKit Go.Proofs.Ytlcnckbmolefpaa.P Go.Proofs.YtlcnckbmolefpaaW.PrintWords
open Go.ChangeMaps (open_string shut_string)
set_option linter.unusedVariables false
theorem own : ownKnob Try.prog.godebug = none := by kernel_rfl
theorem laidOut : laidOutB Try.prog = true := by kernel_rfl
set_option maxRecDepth 100000 in
theorem lifted (os : Os) (started : os.Started) (H : Type) (enc : TypeId × Value → H) :
    ReturnsInHanded {} Try.checked os 8 .any (Rows.memActsSpec.pre6 enc Try.prog Try.f8 Rows.memActsRow.domain false) (Rows.memActsSpec.post enc Try.prog Try.f8 false true false false) := by
  refine returnsInHanded_of_change_sized (C := Try.checked) own started (by kernel_rfl) Try.func8
    (ChangeSpec.witness6 (enc := enc) (C := Try.checked) false ⟨#[], #[.slice none 0 0], []⟩ 8 (by kernel_rfl) (by kernel_rfl) (by kernel_rfl) (by kernel_rfl)) ?_
  intro W base args ds gs before hval0 hW hcnd hsz0 _
  have hsz : (DataW.weightsEach Try.prog (Try.f8.params.toList ++ Rows.memActsSpec.plain.varTypes Try.prog) (ds ++ gs)).all (· ≤ reachBytes) = true := hsz0
  have hval : ∀ (j : Nat) t v, Try.f8.params[j]? = some t → args[j]? = some v → Value.okWide Try.prog W .any base t v := hval0
  have hW' := hW
  obtain ⟨p, q, hA0, hV, rfl, hfz, hnd⟩ := hW
  have hA : DataW.TrodAll enc Try.prog W 0 (fun _ => true) true Try.f8.params.toList args.toList ds p := hA0
  rw [Try.params8] at hA hval hsz
  obtain ⟨v0, vs0, d0, ds0, p0, q0, hargs, rfl, rfl, h0, r0⟩ := trodAll_cons hA
  obtain ⟨rfl, rfl, rfl⟩ := trodAll_nil r0
  obtain rfl : args = #[v0] := by cases args; simp_all
  obtain ⟨rfl, rfl⟩ := trodVars_none hV
  obtain ⟨a0, len0, cap0, rfl⟩ := okWide_slice Try.underlying64 (hval 0 64 v0 rfl rfl)
  have k0 := h0
  have lt0 : ∀ x ∈ p0, x.block < W.heap.size := by obtain ⟨m, hm⟩ := k0; exact DataW.trod_lt m _ _ _ hm
  have y0 : len0 * 56 ≤ 140737488351232 := sized_slice_any hsz (j := 0) (t := 64) rfl rfl Try.underlying64 (by kernel_rfl) h0
  obtain ⟨l0, rfl, hC0, hc0, hm0, hq0⟩ := Opens.arg opens64 h0
  clear hA0 hval0 hsz0 hsz
  obtain ⟨k, h⟩ := Pure.MemActs l0 hq0
  refine (marchlandlaw08_MemActs.calls k _ _ l0 true W hC0 hc0 h).mono fun e W' ⟨he, bel⟩ => ?_
  subst he
  exact ⟨_, rfl, _, _, _, [], _, [], hW', trodAll_mk1 (shut_bool Try.underlying4 _), (trodAll_cons_mk (Below.trod laidOut (by kernel_rfl) (of_decide_eq_true (by kernel_rfl)) k0 bel lt0) trodAll_mk0), rfl, bel.frame _, fun h => by cases h⟩
theorem over : Rows.memActsRow.holds Try.pinned (OpenSpec.ofChange Rows.memActsSpec) :=
  OpenClaim.holds_of_wide 8 Try.f8 rfl rfl rfl rfl rfl rfl rfl ⟨rfl, rfl, rfl, rfl, rfl⟩ rfl rfl rfl rfl rfl (by kernel_rfl) Try.func8 (by kernel_rfl)
    (of_decide_eq_true (by kernel_rfl)) (by unfold Func.isWrapper; first | (rw [if_pos (by decide +kernel)]; kernel_rfl) | (rw [if_neg (by decide +kernel)]; exact ⟨rfl, rfl⟩))
    (fun os started H enc _ => lifted os started H enc)
theorem proved : Rows.MemActsSaid := over
#print axioms proved
end Go.Proofs.Ytlcnckbmolefpaa.memActs
namespace Go.Proofs.Ytlcnckbmolefpaa
/-- The row, under a short name, for the claim. -/
theorem memActs_holds : Rows.MemActsSaid := memActs.proved
end Go.Proofs.Ytlcnckbmolefpaa
