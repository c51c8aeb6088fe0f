/- Walks and laws of several statements of this seat, joined into one text; no condition. -/
import Derived.Test.YtlcnckbmolefpaaProg
import Derived.Below
import Derived.Deep.Draws
import Derived.Deep.AppendLies
import Derived.Maps.AppendAt
import Derived.OwnWalk
import Derived.Laws.BytesArg
import Derived.Laws.MakeOwn
import Derived.Laws.OwnMore
import Derived.Deep.OwnRows
import Derived.Tactics
import Derived.Lib.ConvBytes
import Derived.Laws.Slices
import Derived.WalkKit
import Derived.KernelRfl
import Derived.RowKit3
import Derived.Deep.LoopGhost
import Derived.Deep.QuietTactic
import Derived.BigQuiet
import Derived.WideLaws
import Derived.Deep.DeepCutAuto
import Derived.Deep.CutBlock
import Derived.Deep.RegionHeld3
import Derived.Laws.Rows
import Derived.Lib.AppendStr
import Derived.ArgAppend
import Derived.Laws.IdiomCopy
import Derived.OrdersHeld
import Derived.Laws.BitsLemmas
import Derived.RowKit
import Derived.Laws.StructEq
import Derived.Maps.RangeWalk
import Derived.Maps.OwnRows
import Derived.Maps.Views
import Derived.Maps.OwnSet
import Derived.IntWalk
import Derived.Shelf.SlMaps.Clone
import Derived.Laws.CopyOwn
import Derived.Deep.RegionLaw
import Derived.LoopTactic
import Derived.Outline
import Derived.Lib.BufferMore
import Derived.Deep.CutRange
import Derived.Deep.Slices
import Derived.SizedLaws
import Derived.OpenShut
import Derived.Lib.SmallJoins
import Derived.Test.YtlcnckbmolefpaaMAa0
import Derived.Test.YtlcnckbmolefpaaMAa1
import Derived.Test.YtlcnckbmolefpaaMAa4
import Derived.Test.YtlcnckbmolefpaaMAa5
import Derived.Test.YtlcnckbmolefpaaMAa7
section
namespace Go.Proofs.Ytlcnckbmolefpaa.P
open Go.RowKit Go.Proofs.YtlcnckbmolefpaaW.PrintWords
instance : Inhabited S140 := ⟨z140⟩
theorem opens140 : Opens Try.prog 140 k140 (fun _ => True) :=
  (Opens.iso (Opens.struct (d := Kd.pair (Kd.int .i64) (Kd.pair (Kd.int .u64) (Kd.int .i64))) Try.underlying140 (by kernel_rfl)
    (OpensSeg.cons rfl (by kernel_rfl) (by decide) (opens_i64 Try.underlying3) (OpensSeg.cons rfl (by kernel_rfl) (by decide) (opens_u64 Try.underlying29) (OpensSeg.one rfl (by kernel_rfl) (opens_i64 Try.underlying2)))))
    (fun x : S140 => (x.f0, x.f1, x.f2)) (fun y => ⟨y.1, y.2.1, y.2.2⟩) (fun _ => rfl)).imp fun _ _ => trivial
theorem opens51 : Opens Try.prog 51 (Kd.slice 140 k140) (fun l => l.length ≤ maxLen ∧ ∀ y ∈ l, True) := Opens.slice Try.underlying51 (by kernel_rfl) opens140
theorem opens68 : Opens Try.prog 68 k68 wfO :=
  (Opens.iso (Opens.struct (d := Kd.pair (Kd.int .i64) (Kd.pair (Kd.int .i64) (Kd.pair (Kd.int .i64) (Kd.pair (Kd.int .u64) (Kd.slice 140 k140))))) Try.underlying68 (by kernel_rfl)
    (OpensSeg.cons rfl (by kernel_rfl) (by decide) (opens_i64 Try.underlying3) (OpensSeg.cons rfl (by kernel_rfl) (by decide) (opens_i64 Try.underlying3) (OpensSeg.cons rfl (by kernel_rfl) (by decide) (opens_i64 Try.underlying3) (OpensSeg.cons rfl (by kernel_rfl) (by decide) (opens_u64 Try.underlying29) (OpensSeg.one rfl (by kernel_rfl) opens51))))))
    (fun x : S68 => (x.f0, x.f1, x.f2, x.f3, x.f4)) (fun y => ⟨y.1, y.2.1, y.2.2.1, y.2.2.2.1, y.2.2.2.2⟩) (fun _ => rfl)).imp fun _ h => ⟨h.1, h.2.2.1⟩
theorem opens64 : Opens Try.prog 64 (Kd.slice 68 k68) (fun l => l.length ≤ maxLen ∧ ∀ y ∈ l, wfO y) := Opens.slice Try.underlying64 (by kernel_rfl) opens68
def wfB (x : S68) : Bool := decide (-9223372036854775808 ≤ x.f0) && decide (x.f0 ≤ 9223372036854775807) && (decide (-9223372036854775808 ≤ x.f2) && decide (x.f2 ≤ 9223372036854775807))
theorem wfB_iff (x : S68) : wfB x = true ↔ wfO x := by unfold wfB wfO; simp only [Bool.and_eq_true, decide_eq_true_eq]
def marchlandlaw08_MemActs.f (_k : Nat) (l : List S68) : Option Bool := if l.all wfB = true then some true else none
theorem marchlandlaw08_MemActs.calls (k : Nat) (A0 : Option Addr) (c0 : Nat) (l0 : List S68) (r : Bool) (w : World) (hC0 : Kd.C k68 w A0 l0.length l0) (_hc0 : l0.length ≤ c0) (h : marchlandlaw08_MemActs.f k l0 = some r) :
    Calls Try.prog 8 #[.slice A0 l0.length c0] w fun e w' => e = .returned (.bool r) ∧ Below w.heap.size w w' := by
  unfold marchlandlaw08_MemActs.f at h
  by_cases hw : l0.all wfB = true
  · rw [if_pos hw] at h
    obtain rfl := Option.some.inj h
    exact Acts_calls A0 c0 l0 w hC0 (fun x hx => (wfB_iff x).1 (List.all_eq_true.1 hw x hx))
  · rw [if_neg hw] at h
    cases h
end Go.Proofs.Ytlcnckbmolefpaa.P
namespace Go.Proofs.Ytlcnckbmolefpaa.Pure
theorem MemActs (l0 : List P.S68) (hq : ∀ y ∈ l0, P.wfO y) : ∃ k, P.marchlandlaw08_MemActs.f k l0 = some true := ⟨0, by unfold P.marchlandlaw08_MemActs.f; rw [if_pos (List.all_eq_true.2 fun x hx => (P.wfB_iff x).2 (hq x hx))]⟩
end Go.Proofs.Ytlcnckbmolefpaa.Pure
end
