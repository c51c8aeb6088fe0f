/- Walks and laws of several statements of this seat, joined into one text; no condition. -/
import Derived.Test.YtlcnckbmolefpaaProg
import Derived.Below
import Derived.Deep.Draws
import Derived.Deep.AppendLies
import Derived.Maps.AppendAt
import Derived.OwnWalk
import Derived.Laws.BytesArg
import Derived.Laws.MakeOwn
import Derived.Laws.OwnMore
import Derived.Deep.OwnRows
import Derived.Tactics
import Derived.Lib.ConvBytes
import Derived.Laws.Slices
import Derived.WalkKit
import Derived.KernelRfl
import Derived.RowKit3
import Derived.Deep.LoopGhost
import Derived.Deep.QuietTactic
import Derived.BigQuiet
import Derived.WideLaws
import Derived.Deep.DeepCutAuto
import Derived.Deep.CutBlock
import Derived.Deep.RegionHeld3
import Derived.Laws.Rows
import Derived.Lib.AppendStr
import Derived.ArgAppend
import Derived.Laws.IdiomCopy
import Derived.OrdersHeld
import Derived.Laws.BitsLemmas
import Derived.RowKit
import Derived.Laws.StructEq
import Derived.Maps.RangeWalk
import Derived.Maps.OwnRows
import Derived.Maps.Views
import Derived.Maps.OwnSet
import Derived.IntWalk
import Derived.Shelf.SlMaps.Clone
import Derived.Laws.CopyOwn
import Derived.Deep.RegionLaw
import Derived.LoopTactic
import Derived.Outline
import Derived.Lib.BufferMore
import Derived.Deep.CutRange
import Derived.Lib.Zigzag
import Derived.Laws.EntriesVeiled
import Derived.Test.YtlcnckbmolefpaaRAa0
section
namespace Go.Proofs.Ytlcnckbmolefpaa.P
open Go.RowKit Go.Proofs.YtlcnckbmolefpaaW.PrintWords Go.Proofs.YtlcnckbmolefpaaW.PrintLast Go.Proofs.YtlcnckbmolefpaaW.PrintMore
attribute [local go_sem] max2_int min2_int max_two min_two max_three min_three max_four min_four   -- for this text's walks alone
set_option linter.unusedVariables false
set_option linter.unusedSimpArgs false
def errW : Option Int → Value
  | none => .nilIface
  | some c => .iface 0 (.int .i64 c)
theorem errW_none : errW none = .nilIface := rfl
theorem errW_some (c : Int) : errW (some c) = .iface 0 (.int .i64 c) := rfl
theorem info3 : (Try.prog.info? 3).map (fun i => (i.zero, i.size, i.bytes)) = some (some (.int .i64 0), 1, 8) := by kernel_rfl
theorem info4 : (Try.prog.info? 4).map (fun i => (i.zero, i.size, i.bytes)) = some (some (.bool false), 1, 1) := by kernel_rfl
theorem info29 : (Try.prog.info? 29).map (fun i => (i.zero, i.size, i.bytes)) = some (some (.int .u64 0), 1, 8) := by kernel_rfl
theorem info38 : (Try.prog.info? 38).map (fun i => (i.zero, i.size, i.bytes)) = some (some (.slice none 0 0), 1, 24) := by kernel_rfl
theorem info127 : (Try.prog.info? 127).map (fun i => (i.zero, i.size, i.bytes)) = some (some (.agg #[(.int .i64 0), (.int .i64 0), (.int .i64 0), (.bool false)]), 4, 32) := by kernel_rfl
theorem info128 : (Try.prog.info? 128).map (fun i => (i.zero, i.size, i.bytes)) = some (some (.agg #[(.int .i64 0), (.int .i64 0), (.int .i64 0), (.bool false)]), 4, 32) := by kernel_rfl
theorem info140 : (Try.prog.info? 140).map (fun i => (i.zero, i.size, i.bytes)) = some (some (.agg #[(.int .i64 0), (.int .u64 0), (.int .i64 0)]), 3, 24) := by kernel_rfl
theorem info143 : (Try.prog.info? 143).map (fun i => (i.zero, i.size, i.bytes)) = some (some (.agg #[(.int .i64 0), (.int .u64 0), (.int .i64 0)]), 3, 24) := by kernel_rfl
-- the values' own types
def rd_L1 (xs : List (List Int)) (i : Int) : (List Int) := xs.getD i.toNat ([] : List Int)
theorem at_L1 {w : World} {A : Option Addr} {n : Nat} {xs : List (List Int)} (h : Kd.C (Kd.slice 3 (Kd.int .i64)) w A n xs) (i : Int) (h0 : 0 ≤ i) (h1 : i < n) : ∃ ad A0 c0, A = some ad ∧ w.cell? (ad.add i.toNat) = some (.slice A0 (rd_L1 xs i).length c0) ∧ (rd_L1 xs i).length ≤ c0 ∧ (Kd.int .i64).C w A0 (rd_L1 xs i).length (rd_L1 xs i) := by
  obtain ⟨ad, c, e, _, hK, hc0⟩ := Kd.C_get h ([] : List Int) i h0 h1
  have hc : ∀ j u, c[j]? = some u → w.cell? (ad.add (i.toNat * 1 + j)) = some u := hc0
  obtain ⟨A0, c0, rfl, l0, g0⟩ := hK
  exact ⟨ad, A0, c0, e, by have hq := hc 0 _ rfl; rwa [Nat.mul_one, Nat.add_zero] at hq, l0, g0⟩
/-! #### struct type 127 -/
structure S127 where
  f0 : Int
  f1 : Int
  f2 : Int
  f3 : Bool
def z127 : S127 := ⟨(0 : Int), (0 : Int), (0 : Int), false⟩
def k127 : Kd S127 := Kd.iso (Kd.pair (Kd.int .i64) (Kd.pair (Kd.int .i64) (Kd.pair (Kd.int .i64) Kd.bool))) (fun x : S127 => (x.f0, x.f1, x.f2, x.f3))
theorem k127_open {w : World} {x : S127} {cs : List Value} (h : k127.K w x cs) : cs = [.int .i64 x.f0, .int .i64 x.f1, .int .i64 x.f2, .bool x.f3] := by
  obtain ⟨_, _, rfl, rfl, ⟨_, _, rfl, rfl, ⟨_, _, rfl, rfl, rfl⟩⟩⟩ := h
  exact rfl
theorem k127_openM {w : World} {base : Nat} {ok : Nat → Prop} {x : S127} {cs : List Value} (h : k127.M w base ok x cs) : cs = [.int .i64 x.f0, .int .i64 x.f1, .int .i64 x.f2, .bool x.f3] := by
  obtain ⟨_, _, rfl, rfl, ⟨_, _, rfl, rfl, ⟨_, _, rfl, rfl, rfl⟩⟩⟩ := h
  exact rfl
theorem k127_mk (w : World) (x : S127)  : k127.K w x [.int .i64 x.f0, .int .i64 x.f1, .int .i64 x.f2, .bool x.f3] := ⟨[.int .i64 x.f0], [.int .i64 x.f1, .int .i64 x.f2, .bool x.f3], rfl, rfl, ⟨[.int .i64 x.f1], [.int .i64 x.f2, .bool x.f3], rfl, rfl, ⟨[.int .i64 x.f2], [.bool x.f3], rfl, rfl, rfl⟩⟩⟩
theorem k127_mkM (w : World) (base : Nat) (ok : Nat → Prop) (x : S127)  : k127.M w base ok x [.int .i64 x.f0, .int .i64 x.f1, .int .i64 x.f2, .bool x.f3] := ⟨[.int .i64 x.f0], [.int .i64 x.f1, .int .i64 x.f2, .bool x.f3], rfl, rfl, ⟨[.int .i64 x.f1], [.int .i64 x.f2, .bool x.f3], rfl, rfl, ⟨[.int .i64 x.f2], [.bool x.f3], rfl, rfl, rfl⟩⟩⟩
def rd_T127 (xs : List S127) (i : Int) : S127 := xs.getD i.toNat z127
theorem at_T127 {w : World} {A : Option Addr} {n : Nat} {xs : List S127} (h : Kd.C k127 w A n xs) (i : Int) (h0 : 0 ≤ i) (h1 : i < n) : ∃ ad , A = some ad ∧ w.cell? (ad.add (i.toNat * 4)) = some (.int .i64 (rd_T127 xs i).f0) ∧ w.cell? ⟨(ad.add (i.toNat * 4)).block, (ad.add (i.toNat * 4)).off + 1, none⟩ = some (.int .i64 (rd_T127 xs i).f1) ∧ w.cell? ⟨(ad.add (i.toNat * 4)).block, (ad.add (i.toNat * 4)).off + 2, none⟩ = some (.int .i64 (rd_T127 xs i).f2) ∧ w.cell? ⟨(ad.add (i.toNat * 4)).block, (ad.add (i.toNat * 4)).off + 3, none⟩ = some (.bool (rd_T127 xs i).f3) := by
  obtain ⟨ad, c, e, _, hK, hc0⟩ := Kd.C_get h z127 i h0 h1
  have hc : ∀ j u, c[j]? = some u → w.cell? (ad.add (i.toNat * 4 + j)) = some u := hc0
  obtain rfl := k127_open hK
  exact ⟨ad, e, hc 0 _ rfl, by rw [← add_field _ _ 1 (by omega)]; exact hc 1 _ rfl, by rw [← add_field _ _ 2 (by omega)]; exact hc 2 _ rfl, by rw [← add_field _ _ 3 (by omega)]; exact hc 3 _ rfl⟩
/-! #### struct type 128 -/
structure S128 where
  f0 : Int
  f1 : Int
  f2 : Int
  f3 : Bool
def z128 : S128 := ⟨(0 : Int), (0 : Int), (0 : Int), false⟩
def k128 : Kd S128 := Kd.iso (Kd.pair (Kd.int .i64) (Kd.pair (Kd.int .i64) (Kd.pair (Kd.int .i64) Kd.bool))) (fun x : S128 => (x.f0, x.f1, x.f2, x.f3))
theorem k128_open {w : World} {x : S128} {cs : List Value} (h : k128.K w x cs) : cs = [.int .i64 x.f0, .int .i64 x.f1, .int .i64 x.f2, .bool x.f3] := by
  obtain ⟨_, _, rfl, rfl, ⟨_, _, rfl, rfl, ⟨_, _, rfl, rfl, rfl⟩⟩⟩ := h
  exact rfl
theorem k128_openM {w : World} {base : Nat} {ok : Nat → Prop} {x : S128} {cs : List Value} (h : k128.M w base ok x cs) : cs = [.int .i64 x.f0, .int .i64 x.f1, .int .i64 x.f2, .bool x.f3] := by
  obtain ⟨_, _, rfl, rfl, ⟨_, _, rfl, rfl, ⟨_, _, rfl, rfl, rfl⟩⟩⟩ := h
  exact rfl
theorem k128_mk (w : World) (x : S128)  : k128.K w x [.int .i64 x.f0, .int .i64 x.f1, .int .i64 x.f2, .bool x.f3] := ⟨[.int .i64 x.f0], [.int .i64 x.f1, .int .i64 x.f2, .bool x.f3], rfl, rfl, ⟨[.int .i64 x.f1], [.int .i64 x.f2, .bool x.f3], rfl, rfl, ⟨[.int .i64 x.f2], [.bool x.f3], rfl, rfl, rfl⟩⟩⟩
theorem k128_mkM (w : World) (base : Nat) (ok : Nat → Prop) (x : S128)  : k128.M w base ok x [.int .i64 x.f0, .int .i64 x.f1, .int .i64 x.f2, .bool x.f3] := ⟨[.int .i64 x.f0], [.int .i64 x.f1, .int .i64 x.f2, .bool x.f3], rfl, rfl, ⟨[.int .i64 x.f1], [.int .i64 x.f2, .bool x.f3], rfl, rfl, ⟨[.int .i64 x.f2], [.bool x.f3], rfl, rfl, rfl⟩⟩⟩
def rd_T128 (xs : List S128) (i : Int) : S128 := xs.getD i.toNat z128
theorem at_T128 {w : World} {A : Option Addr} {n : Nat} {xs : List S128} (h : Kd.C k128 w A n xs) (i : Int) (h0 : 0 ≤ i) (h1 : i < n) : ∃ ad , A = some ad ∧ w.cell? (ad.add (i.toNat * 4)) = some (.int .i64 (rd_T128 xs i).f0) ∧ w.cell? ⟨(ad.add (i.toNat * 4)).block, (ad.add (i.toNat * 4)).off + 1, none⟩ = some (.int .i64 (rd_T128 xs i).f1) ∧ w.cell? ⟨(ad.add (i.toNat * 4)).block, (ad.add (i.toNat * 4)).off + 2, none⟩ = some (.int .i64 (rd_T128 xs i).f2) ∧ w.cell? ⟨(ad.add (i.toNat * 4)).block, (ad.add (i.toNat * 4)).off + 3, none⟩ = some (.bool (rd_T128 xs i).f3) := by
  obtain ⟨ad, c, e, _, hK, hc0⟩ := Kd.C_get h z128 i h0 h1
  have hc : ∀ j u, c[j]? = some u → w.cell? (ad.add (i.toNat * 4 + j)) = some u := hc0
  obtain rfl := k128_open hK
  exact ⟨ad, e, hc 0 _ rfl, by rw [← add_field _ _ 1 (by omega)]; exact hc 1 _ rfl, by rw [← add_field _ _ 2 (by omega)]; exact hc 2 _ rfl, by rw [← add_field _ _ 3 (by omega)]; exact hc 3 _ rfl⟩
def rd_L5 (xs : List (List Bool)) (i : Int) : (List Bool) := xs.getD i.toNat ([] : List Bool)
theorem at_L5 {w : World} {A : Option Addr} {n : Nat} {xs : List (List Bool)} (h : Kd.C (Kd.slice 4 Kd.bool) w A n xs) (i : Int) (h0 : 0 ≤ i) (h1 : i < n) : ∃ ad A0 c0, A = some ad ∧ w.cell? (ad.add i.toNat) = some (.slice A0 (rd_L5 xs i).length c0) ∧ (rd_L5 xs i).length ≤ c0 ∧ Kd.bool.C w A0 (rd_L5 xs i).length (rd_L5 xs i) := by
  obtain ⟨ad, c, e, _, hK, hc0⟩ := Kd.C_get h ([] : List Bool) i h0 h1
  have hc : ∀ j u, c[j]? = some u → w.cell? (ad.add (i.toNat * 1 + j)) = some u := hc0
  obtain ⟨A0, c0, rfl, l0, g0⟩ := hK
  exact ⟨ad, A0, c0, e, by have hq := hc 0 _ rfl; rwa [Nat.mul_one, Nat.add_zero] at hq, l0, g0⟩
def rd_L6 (xs : List (List S128)) (i : Int) : (List S128) := xs.getD i.toNat ([] : List S128)
theorem at_L6 {w : World} {A : Option Addr} {n : Nat} {xs : List (List S128)} (h : Kd.C (Kd.slice 128 k128) w A n xs) (i : Int) (h0 : 0 ≤ i) (h1 : i < n) : ∃ ad A0 c0, A = some ad ∧ w.cell? (ad.add i.toNat) = some (.slice A0 (rd_L6 xs i).length c0) ∧ (rd_L6 xs i).length ≤ c0 ∧ k128.C w A0 (rd_L6 xs i).length (rd_L6 xs i) := by
  obtain ⟨ad, c, e, _, hK, hc0⟩ := Kd.C_get h ([] : List S128) i h0 h1
  have hc : ∀ j u, c[j]? = some u → w.cell? (ad.add (i.toNat * 1 + j)) = some u := hc0
  obtain ⟨A0, c0, rfl, l0, g0⟩ := hK
  exact ⟨ad, A0, c0, e, by have hq := hc 0 _ rfl; rwa [Nat.mul_one, Nat.add_zero] at hq, l0, g0⟩
def rd_L7 (xs : List (List S127)) (i : Int) : (List S127) := xs.getD i.toNat ([] : List S127)
theorem at_L7 {w : World} {A : Option Addr} {n : Nat} {xs : List (List S127)} (h : Kd.C (Kd.slice 127 k127) w A n xs) (i : Int) (h0 : 0 ≤ i) (h1 : i < n) : ∃ ad A0 c0, A = some ad ∧ w.cell? (ad.add i.toNat) = some (.slice A0 (rd_L7 xs i).length c0) ∧ (rd_L7 xs i).length ≤ c0 ∧ k127.C w A0 (rd_L7 xs i).length (rd_L7 xs i) := by
  obtain ⟨ad, c, e, _, hK, hc0⟩ := Kd.C_get h ([] : List S127) i h0 h1
  have hc : ∀ j u, c[j]? = some u → w.cell? (ad.add (i.toNat * 1 + j)) = some u := hc0
  obtain ⟨A0, c0, rfl, l0, g0⟩ := hK
  exact ⟨ad, A0, c0, e, by have hq := hc 0 _ rfl; rwa [Nat.mul_one, Nat.add_zero] at hq, l0, g0⟩
/-! #### struct type 140 -/
structure S140 where
  f0 : Int
  f1 : Int
  f2 : Int
def z140 : S140 := ⟨(0 : Int), (0 : Int), (0 : Int)⟩
def k140 : Kd S140 := Kd.iso (Kd.pair (Kd.int .i64) (Kd.pair (Kd.int .u64) (Kd.int .i64))) (fun x : S140 => (x.f0, x.f1, x.f2))
theorem k140_open {w : World} {x : S140} {cs : List Value} (h : k140.K w x cs) : cs = [.int .i64 x.f0, .int .u64 x.f1, .int .i64 x.f2] := by
  obtain ⟨_, _, rfl, rfl, ⟨_, _, rfl, rfl, rfl⟩⟩ := h
  exact rfl
theorem k140_openM {w : World} {base : Nat} {ok : Nat → Prop} {x : S140} {cs : List Value} (h : k140.M w base ok x cs) : cs = [.int .i64 x.f0, .int .u64 x.f1, .int .i64 x.f2] := by
  obtain ⟨_, _, rfl, rfl, ⟨_, _, rfl, rfl, rfl⟩⟩ := h
  exact rfl
theorem k140_mk (w : World) (x : S140)  : k140.K w x [.int .i64 x.f0, .int .u64 x.f1, .int .i64 x.f2] := ⟨[.int .i64 x.f0], [.int .u64 x.f1, .int .i64 x.f2], rfl, rfl, ⟨[.int .u64 x.f1], [.int .i64 x.f2], rfl, rfl, rfl⟩⟩
theorem k140_mkM (w : World) (base : Nat) (ok : Nat → Prop) (x : S140)  : k140.M w base ok x [.int .i64 x.f0, .int .u64 x.f1, .int .i64 x.f2] := ⟨[.int .i64 x.f0], [.int .u64 x.f1, .int .i64 x.f2], rfl, rfl, ⟨[.int .u64 x.f1], [.int .i64 x.f2], rfl, rfl, rfl⟩⟩
def rd_T140 (xs : List S140) (i : Int) : S140 := xs.getD i.toNat z140
theorem at_T140 {w : World} {A : Option Addr} {n : Nat} {xs : List S140} (h : Kd.C k140 w A n xs) (i : Int) (h0 : 0 ≤ i) (h1 : i < n) : ∃ ad , A = some ad ∧ w.cell? (ad.add (i.toNat * 3)) = some (.int .i64 (rd_T140 xs i).f0) ∧ w.cell? ⟨(ad.add (i.toNat * 3)).block, (ad.add (i.toNat * 3)).off + 1, none⟩ = some (.int .u64 (rd_T140 xs i).f1) ∧ w.cell? ⟨(ad.add (i.toNat * 3)).block, (ad.add (i.toNat * 3)).off + 2, none⟩ = some (.int .i64 (rd_T140 xs i).f2) := by
  obtain ⟨ad, c, e, _, hK, hc0⟩ := Kd.C_get h z140 i h0 h1
  have hc : ∀ j u, c[j]? = some u → w.cell? (ad.add (i.toNat * 3 + j)) = some u := hc0
  obtain rfl := k140_open hK
  exact ⟨ad, e, hc 0 _ rfl, by rw [← add_field _ _ 1 (by omega)]; exact hc 1 _ rfl, by rw [← add_field _ _ 2 (by omega)]; exact hc 2 _ rfl⟩
/-! #### struct type 143 -/
structure S143 where
  f0 : Int
  f1 : Int
  f2 : Int
def z143 : S143 := ⟨(0 : Int), (0 : Int), (0 : Int)⟩
def k143 : Kd S143 := Kd.iso (Kd.pair (Kd.int .i64) (Kd.pair (Kd.int .u64) (Kd.int .i64))) (fun x : S143 => (x.f0, x.f1, x.f2))
theorem k143_open {w : World} {x : S143} {cs : List Value} (h : k143.K w x cs) : cs = [.int .i64 x.f0, .int .u64 x.f1, .int .i64 x.f2] := by
  obtain ⟨_, _, rfl, rfl, ⟨_, _, rfl, rfl, rfl⟩⟩ := h
  exact rfl
theorem k143_openM {w : World} {base : Nat} {ok : Nat → Prop} {x : S143} {cs : List Value} (h : k143.M w base ok x cs) : cs = [.int .i64 x.f0, .int .u64 x.f1, .int .i64 x.f2] := by
  obtain ⟨_, _, rfl, rfl, ⟨_, _, rfl, rfl, rfl⟩⟩ := h
  exact rfl
theorem k143_mk (w : World) (x : S143)  : k143.K w x [.int .i64 x.f0, .int .u64 x.f1, .int .i64 x.f2] := ⟨[.int .i64 x.f0], [.int .u64 x.f1, .int .i64 x.f2], rfl, rfl, ⟨[.int .u64 x.f1], [.int .i64 x.f2], rfl, rfl, rfl⟩⟩
theorem k143_mkM (w : World) (base : Nat) (ok : Nat → Prop) (x : S143)  : k143.M w base ok x [.int .i64 x.f0, .int .u64 x.f1, .int .i64 x.f2] := ⟨[.int .i64 x.f0], [.int .u64 x.f1, .int .i64 x.f2], rfl, rfl, ⟨[.int .u64 x.f1], [.int .i64 x.f2], rfl, rfl, rfl⟩⟩
def rd_T143 (xs : List S143) (i : Int) : S143 := xs.getD i.toNat z143
theorem at_T143 {w : World} {A : Option Addr} {n : Nat} {xs : List S143} (h : Kd.C k143 w A n xs) (i : Int) (h0 : 0 ≤ i) (h1 : i < n) : ∃ ad , A = some ad ∧ w.cell? (ad.add (i.toNat * 3)) = some (.int .i64 (rd_T143 xs i).f0) ∧ w.cell? ⟨(ad.add (i.toNat * 3)).block, (ad.add (i.toNat * 3)).off + 1, none⟩ = some (.int .u64 (rd_T143 xs i).f1) ∧ w.cell? ⟨(ad.add (i.toNat * 3)).block, (ad.add (i.toNat * 3)).off + 2, none⟩ = some (.int .i64 (rd_T143 xs i).f2) := by
  obtain ⟨ad, c, e, _, hK, hc0⟩ := Kd.C_get h z143 i h0 h1
  have hc : ∀ j u, c[j]? = some u → w.cell? (ad.add (i.toNat * 3 + j)) = some u := hc0
  obtain rfl := k143_open hK
  exact ⟨ad, e, hc 0 _ rfl, by rw [← add_field _ _ 1 (by omega)]; exact hc 1 _ rfl, by rw [← add_field _ _ 2 (by omega)]; exact hc 2 _ rfl⟩
def rd_L11 (xs : List (List S140)) (i : Int) : (List S140) := xs.getD i.toNat ([] : List S140)
theorem at_L11 {w : World} {A : Option Addr} {n : Nat} {xs : List (List S140)} (h : Kd.C (Kd.slice 140 k140) w A n xs) (i : Int) (h0 : 0 ≤ i) (h1 : i < n) : ∃ ad A0 c0, A = some ad ∧ w.cell? (ad.add i.toNat) = some (.slice A0 (rd_L11 xs i).length c0) ∧ (rd_L11 xs i).length ≤ c0 ∧ k140.C w A0 (rd_L11 xs i).length (rd_L11 xs i) := by
  obtain ⟨ad, c, e, _, hK, hc0⟩ := Kd.C_get h ([] : List S140) i h0 h1
  have hc : ∀ j u, c[j]? = some u → w.cell? (ad.add (i.toNat * 1 + j)) = some u := hc0
  obtain ⟨A0, c0, rfl, l0, g0⟩ := hK
  exact ⟨ad, A0, c0, e, by have hq := hc 0 _ rfl; rwa [Nat.mul_one, Nat.add_zero] at hq, l0, g0⟩
/-! #### struct type 28 -/
structure S28 where
  f0 : Int
  f1 : Int
def z28 : S28 := ⟨(0 : Int), (0 : Int)⟩
def k28 : Kd S28 := Kd.iso (Kd.pair (Kd.int .i64) (Kd.int .i64)) (fun x : S28 => (x.f0, x.f1))
theorem k28_open {w : World} {x : S28} {cs : List Value} (h : k28.K w x cs) : cs = [.int .i64 x.f0, .int .i64 x.f1] := by
  obtain ⟨_, _, rfl, rfl, rfl⟩ := h
  exact rfl
theorem k28_openM {w : World} {base : Nat} {ok : Nat → Prop} {x : S28} {cs : List Value} (h : k28.M w base ok x cs) : cs = [.int .i64 x.f0, .int .i64 x.f1] := by
  obtain ⟨_, _, rfl, rfl, rfl⟩ := h
  exact rfl
theorem k28_mk (w : World) (x : S28)  : k28.K w x [.int .i64 x.f0, .int .i64 x.f1] := ⟨[.int .i64 x.f0], [.int .i64 x.f1], rfl, rfl, rfl⟩
theorem k28_mkM (w : World) (base : Nat) (ok : Nat → Prop) (x : S28)  : k28.M w base ok x [.int .i64 x.f0, .int .i64 x.f1] := ⟨[.int .i64 x.f0], [.int .i64 x.f1], rfl, rfl, rfl⟩
def rd_T28 (xs : List S28) (i : Int) : S28 := xs.getD i.toNat z28
theorem at_T28 {w : World} {A : Option Addr} {n : Nat} {xs : List S28} (h : Kd.C k28 w A n xs) (i : Int) (h0 : 0 ≤ i) (h1 : i < n) : ∃ ad , A = some ad ∧ w.cell? (ad.add (i.toNat * 2)) = some (.int .i64 (rd_T28 xs i).f0) ∧ w.cell? ⟨(ad.add (i.toNat * 2)).block, (ad.add (i.toNat * 2)).off + 1, none⟩ = some (.int .i64 (rd_T28 xs i).f1) := by
  obtain ⟨ad, c, e, _, hK, hc0⟩ := Kd.C_get h z28 i h0 h1
  have hc : ∀ j u, c[j]? = some u → w.cell? (ad.add (i.toNat * 2 + j)) = some u := hc0
  obtain rfl := k28_open hK
  exact ⟨ad, e, hc 0 _ rfl, by rw [← add_field _ _ 1 (by omega)]; exact hc 1 _ rfl⟩
end Go.Proofs.Ytlcnckbmolefpaa.P
end
section
set_option linter.unusedVariables false
namespace Go.Proofs.Ytlcnckbmolefpaa.CK
structure Ev where
  who : Int
  kind : Int
  at_ : Int
  ok : Bool
abbrev T := Int → Int
def valid (e : Ev) : Prop := 0 ≤ e.kind ∧ e.kind ≤ 7
instance (e : Ev) : Decidable (valid e) := inferInstanceAs (Decidable (_ ∧ _))
def stores (e : Ev) : Prop := e.kind = 1
instance (e : Ev) : Decidable (stores e) := inferInstanceAs (Decidable (_ = _))
def frees (e : Ev) : Prop := (e.kind = 5 ∨ e.kind = 6) ∧ e.ok = true
instance (e : Ev) : Decidable (frees e) := inferInstanceAs (Decidable (_ ∧ _))
def upd {α : Type} (f : Int → α) (k : Int) (v : α) : Int → α := fun x => if x = k then v else f x
def joinT (a b : T) : T := fun x => max (a x) (b x)
def zeroT : T := fun _ => 0
structure St where
  C : Int → T
  W : Int → T
  L : Int → T
def st0 : St := ⟨fun _ => zeroT, fun _ => zeroT, fun _ => zeroT⟩
def c1 (s : St) (e : Ev) : T := if e.kind = 0 then joinT (s.C e.who) (s.W e.at_) else if e.kind = 4 ∧ e.ok = true then joinT (s.C e.who) (s.L e.at_) else s.C e.who
def c2 (s : St) (e : Ev) : T := upd (c1 s e) e.who (c1 s e e.who + 1)
def stepS (s : St) (e : Ev) : St :=
  if valid e then ⟨upd s.C e.who (c2 s e), if stores e then upd s.W e.at_ (c2 s e) else s.W, if frees e then upd s.L e.at_ (joinT (c2 s e) (s.L e.at_)) else s.L⟩ else s
def outS (s : St) (e : Ev) : Int × T := if valid e then (c2 s e e.who, c2 s e) else (0, zeroT)
section
variable (g : Nat → Ev)
def S : Nat → St
  | 0 => st0
  | n + 1 => stepS (S n) (g n)
def seenAt (n : Nat) : Int × T := outS (S g n) (g n)
def stp (i j : Nat) : Prop := i < j ∧ valid (g i) ∧ valid (g j) ∧ ((g i).who = (g j).who ∨ (g i).at_ = (g j).at_ ∧
  ((stores (g i) ∧ (g j).kind = 0 ∧ ∀ k, i < k → k < j → ¬ (stores (g k) ∧ (g k).at_ = (g i).at_)) ∨ (frees (g i) ∧ (g j).kind = 4 ∧ (g j).ok = true)))
inductive hb : Nat → Nat → Prop
  | one {i j : Nat} : stp g i j → hb i j
  | more {i k j : Nat} : hb i k → stp g k j → hb i j
def cnt : Nat → Int → Int
  | 0, _ => 0
  | n + 1, p => if valid (g n) ∧ (g n).who = p then cnt n p + 1 else cnt n p
variable {g}
theorem cnt_step (n : Nat) (p : Int) : cnt g n p ≤ cnt g (n + 1) p ∧ cnt g (n + 1) p ≤ cnt g n p + 1 := by
  have e : cnt g (n + 1) p = if valid (g n) ∧ (g n).who = p then cnt g n p + 1 else cnt g n p := rfl
  rw [e]; split <;> omega
theorem cnt_self {n : Nat} (h : valid (g n)) : cnt g (n + 1) (g n).who = cnt g n (g n).who + 1 := if_pos ⟨h, rfl⟩
variable (g) in
def own (i : Nat) : Int := cnt g (i + 1) (g i).who
structure Known (n : Nat) (t : T) (K : Nat → Prop) : Prop where
  lo : ∀ q, 0 ≤ t q
  hi : ∀ q, t q ≤ cnt g n q
  iff : ∀ i, i < n → valid (g i) → (own g i ≤ t (g i).who ↔ K i)
theorem Known.congr {n : Nat} {a : T} {A B : Nat → Prop} (h : Known (g := g) n a A) (k : ∀ i, i < n → valid (g i) → (A i ↔ B i)) : Known (g := g) n a B :=
  ⟨h.lo, h.hi, fun i hi hv => (h.iff i hi hv).trans (k i hi hv)⟩
theorem Known.next {n : Nat} {a : T} {A B : Nat → Prop} (h : Known (g := g) n a A) (k : ∀ i, i < n → valid (g i) → (A i ↔ B i)) (hn : ¬ B n) : Known (g := g) (n + 1) a B := by
  refine ⟨h.lo, fun q => Int.le_trans (h.hi q) (cnt_step n q).1, fun i hi hv => ?_⟩
  rcases Nat.lt_or_ge i n with c | c
  · exact (h.iff i c hv).trans (k i c hv)
  · obtain rfl : i = n := by omega
    have := h.hi (g i).who
    have := cnt_self hv
    constructor
    · intro q; unfold own at q; omega
    · intro q; exact absurd q hn
variable (g) in
def KC (n : Nat) (p : Int) (i : Nat) : Prop := ∃ k, k < n ∧ valid (g k) ∧ (g k).who = p ∧ (i = k ∨ hb g i k)
variable (g) in
def KW (n : Nat) (a : Int) (i : Nat) : Prop := ∃ k, k < n ∧ stores (g k) ∧ (g k).at_ = a ∧ (∀ m, k < m → m < n → ¬ (stores (g m) ∧ (g m).at_ = a)) ∧ (i = k ∨ hb g i k)
variable (g) in
def KL (n : Nat) (a : Int) (i : Nat) : Prop := ∃ k, k < n ∧ frees (g k) ∧ (g k).at_ = a ∧ (i = k ∨ hb g i k)
variable (g) in
structure Inv (n : Nat) : Prop where
  C : ∀ p, Known (g := g) n ((S g n).C p) (KC g n p)
  me : ∀ p, (S g n).C p p = cnt g n p
  W : ∀ a, Known (g := g) n ((S g n).W a) (KW g n a)
  L : ∀ a, Known (g := g) n ((S g n).L a) (KL g n a)
variable (g) in
def bef (i j : Nat) : Bool := decide ((seenAt g i).1 > 0) && decide ((seenAt g j).2 (g i).who ≥ (seenAt g i).1)
end
end Go.Proofs.Ytlcnckbmolefpaa.CK
end
section
namespace Go.Proofs.Ytlcnckbmolefpaa.CK
open Go Go.RowKit Go.Maps Go.ChangeMaps Go.MapKept Go.WideShapes
open Go.WideElems (Fit rd rg pl rd_val elemAt rd_key)
set_option linter.unusedVariables false
set_option linter.unusedSimpArgs false
variable {P : Program} {k : TypeId}
theorem keyI_ne {x y : Int} (h : x ≠ y) : (Lit.int .i64 x) ≠ Lit.int .i64 y := fun e => h (by injection e)
theorem pigeon : ∀ (l : List (Lit × DataW Unit)) (K : List Int), l.Pairwise (fun p q => p.1 ≠ q.1) → (∀ p ∈ l, ∃ x, x ∈ K ∧ p.1 = .int .i64 x) → l.length ≤ K.length
  | [], K, _, _ => Nat.zero_le _
  | p :: l, K, hd, hk => by
    obtain ⟨x, hx, hp⟩ := hk p List.mem_cons_self
    have h2 := List.pairwise_cons.1 hd
    have := pigeon l (K.erase x) h2.2 (fun q hq => by
      obtain ⟨y, hy, hqy⟩ := hk q (List.mem_cons_of_mem _ hq)
      have : y ≠ x := fun e => h2.1 q hq (by rw [hp, hqy, e])
      exact ⟨y, (List.mem_erase_of_ne this).2 hy, hqy⟩)
    rw [List.length_erase_of_mem hx] at this
    have : 0 < K.length := List.length_pos_of_mem hx
    simp only [List.length_cons]; omega
theorem own_int_keys (hk : P.underlying k = some (.int .i64)) {R : Value → Option (DataW Unit × List MemPlace)} {w : World} {b n : Nat} {D : DataW Unit} (h : w.ownsMap P k R b n D) :
    ∃ l, D = .map l ∧ l.Pairwise (fun p q => p.1 ≠ q.1) ∧ ∀ p ∈ l, ∃ x, p.1 = .int .i64 x := by
  obtain ⟨es, clock, _, F, _, rfl⟩ := h
  refine ⟨_, rfl, ((sorted_perm _).pairwise_iff (fun {_ _} hne => Ne.symm hne)).2 (Maps.fit_apart (int_keyed hk) F), fun p hp => ?_⟩
  obtain ⟨x, hx, rfl⟩ := List.mem_map.1 (mem_sorted.1 hp)
  obtain ⟨y, hy⟩ := F.reads x hx
  obtain ⟨z, _, hz, _⟩ := Maps.keyOf_int_inv hk (rd_key hy)
  exact ⟨z, by rw [Go.WideElems.rg_of hy]; exact hz⟩
theorem own_tight {R : Value → Option (DataW Unit × List MemPlace)} {w : World} {b n : Nat} {D : DataW Unit} (h : w.ownsMap P k R b n D) : w.ownsMap P k R b (Maps.size D) D := by
  obtain ⟨es, clock, hb, F, _, rfl⟩ := h
  exact ⟨es, clock, hb, F, by simp [Maps.size, length_sorted], rfl⟩
theorem own_few (hk : P.underlying k = some (.int .i64)) {R : Value → Option (DataW Unit × List MemPlace)} {w : World} {b n : Nat} {D : DataW Unit} {K : List Int} (h : w.ownsMap P k R b n D) (hK : ∀ x, Maps.has D (.int .i64 x) = true → x ∈ K) : w.ownsMap P k R b K.length D := by
  obtain ⟨l, rfl, h1, h2⟩ := own_int_keys hk h
  refine (own_tight h).mono ?_
  refine pigeon l K h1 (fun p hp => ?_)
  obtain ⟨x, hx⟩ := h2 p hp
  refine ⟨x, hK x ?_, hx⟩
  exact List.any_eq_true.2 ⟨p, hp, by rw [hx]; exact WideAt.sameKey_self trivial⟩
variable (P k) in
def TD (w : World) (b : Nat) (K : List Int) (t : T) (D : DataW Unit) : Prop := w.ownsMap P k (plainElem P k) b K.length D ∧ (∀ x : Int, D.atKey (.int .i64 x) (.lit (.int .i64 0)) = .lit (.int .i64 (t x))) ∧ ∀ x, Maps.has D (.int .i64 x) = true → x ∈ K
variable (P k) in
def TOwn (w : World) (b : Nat) (K : List Int) (t : T) : Prop := ∃ D, TD P k w b K t D
theorem TD.kept {w w' : World} {row : Option Nat} {b : Nat} {K : List Int} {t : T} {D : DataW Unit} (h : TD P k w b K t D) (hg : w.grownBy w' row) (hne : some b ≠ row) : TD P k w' b K t D := ⟨h.1.kept hg hne, h.2⟩
theorem TOwn.kept {w w' : World} {row : Option Nat} {b : Nat} {K : List Int} {t : T} (h : TOwn P k w b K t) (hg : w.grownBy w' row) (hne : some b ≠ row) : TOwn P k w' b K t := by
  obtain ⟨D, h⟩ := h; exact ⟨D, h.kept hg hne⟩
theorem TOwn.lt {w : World} {b : Nat} {K : List Int} {t : T} (h : TOwn P k w b K t) : b < w.heap.size := by obtain ⟨D, h⟩ := h; exact h.1.lt
theorem TD.more (hk : P.underlying k = some (.int .i64)) {w : World} {b : Nat} {K K' : List Int} {t : T} {D : DataW Unit} (h : TD P k w b K t D) (hK : ∀ x ∈ K, x ∈ K') : TD P k w b K' t D :=
  have h' : ∀ x, Maps.has D (.int .i64 x) = true → x ∈ K' := fun x hx => hK x (h.2.2 x hx)
  ⟨own_few hk h.1 h', h.2.1, h'⟩
theorem TOwn.more (hk : P.underlying k = some (.int .i64)) {w : World} {b : Nat} {K K' : List Int} {t : T} (h : TOwn P k w b K t) (hK : ∀ x ∈ K, x ∈ K') : TOwn P k w b K' t := by
  obtain ⟨D, h⟩ := h; exact ⟨D, h.more hk hK⟩
theorem TOwn.made (w : World) (K : List Int) : TOwn P k (w.alloc (.map #[] 0)) w.heap.size K zeroT :=
  ⟨.map [], (World.ownsMap_made w P k _).mono (Nat.zero_le _), fun x => rfl, fun x hx => by simp [Maps.has] at hx⟩
theorem TD.stored (hk : P.underlying k = some (.int .i64)) {w w' : World} {b n : Nat} {K : List Int} {t : T} {D : DataW Unit} (h : TD P k w b K t D) {x v : Int} (hx : x ∈ K) (h' : w'.ownsMap P k (plainElem P k) b n (D.put (.int .i64 x) (.lit (.int .i64 v)))) : TD P k w' b K (upd t x v) (D.put (.int .i64 x) (.lit (.int .i64 v))) := by
  have hm := h.1.isMap
  have hK : ∀ y, Maps.has (D.put (.int .i64 x) (.lit (.int .i64 v))) (.int .i64 y) = true → y ∈ K := fun y hy => by
    by_cases e : y = x
    · rw [e]; exact hx
    · rw [has_put_other (keyI_ne e)] at hy; exact h.2.2 y hy
  refine ⟨own_few hk h' hK, fun y => ?_, hK⟩
  by_cases e : y = x
  · subst e
    rw [atKey_put_same (k := .int .i64 y) hm trivial]
    show _ = DataW.lit (.int .i64 (if y = y then v else t y))
    rw [if_pos rfl]
  · rw [atKey_put_other (keyI_ne e), h.2.1]
    show _ = DataW.lit (.int .i64 (if y = x then v else t y))
    rw [if_neg e]
def encR : Option Nat → DataW Unit
  | none => .lit (.int .i64 (-1))
  | some b => .lit (.int .i64 b)
def refElem : Value → Option (DataW Unit × List MemPlace)
  | .map r => some (encR r, [])
  | _ => none
variable (P k) in
def OMap (w : World) (b n : Nat) (f : Int → Option Nat) : Prop := ∃ D, w.ownsMap P k refElem b n D ∧ ∀ x : Int, D.atKey (.int .i64 x) (encR none) = encR (f x)
theorem OMap.kept {w w' : World} {row : Option Nat} {b n : Nat} {f : Int → Option Nat} (h : OMap P k w b n f) (hg : w.grownBy w' row) (hne : some b ≠ row) : OMap P k w' b n f := by
  obtain ⟨D, h, hr⟩ := h; exact ⟨D, h.kept hg hne, hr⟩
theorem OMap.lt {w : World} {b n : Nat} {f : Int → Option Nat} (h : OMap P k w b n f) : b < w.heap.size := by obtain ⟨D, h, _⟩ := h; exact h.lt
theorem OMap.mono {w : World} {b n n' : Nat} {f : Int → Option Nat} (h : OMap P k w b n f) (hn : n ≤ n') : OMap P k w b n' f := by obtain ⟨D, h, hr⟩ := h; exact ⟨D, h.mono hn, hr⟩
theorem OMap.made (w : World) : OMap P k (w.alloc (.map #[] 0)) w.heap.size 0 (fun _ => none) := ⟨.map [], World.ownsMap_made w P k _, fun x => rfl⟩
end Go.Proofs.Ytlcnckbmolefpaa.CK
end
section
namespace Go.Proofs.Ytlcnckbmolefpaa.P
open Go.RowKit Go.Proofs.YtlcnckbmolefpaaW.PrintWords Go.Proofs.YtlcnckbmolefpaaW.PrintLast Go.Proofs.YtlcnckbmolefpaaW.PrintMore
attribute [local go_sem] max2_int min2_int max_two min_two max_three min_three max_four min_four   -- for this text's walks alone
set_option linter.unusedVariables false
set_option linter.unusedSimpArgs false
/-! ### pick_Who: function 17 -/
def pick_Who.f (a0 : Int) (a1 : Int) : Option (Int) := if a1 < 1 then (some (-1)) else (if (IntKind.u64.wrap (a1)) = 0 then (none) else (some (wrap64 (Int.tmod (IntKind.u64.wrap (a0)) (IntKind.u64.wrap (a1))))))
set_option maxHeartbeats 8000000 in
set_option maxRecDepth 100000 in
theorem pick_Who.calls (a0 : Int) (a1 : Int) (r : Int) (w : World) (h : pick_Who.f a0 a1 = some r) :
    Calls Try.prog 17 #[.int .i64 a0, .int .i64 a1] w fun e w' => e = .returned (.int .i64 r) ∧ Drawn0 w w' := by
  have H : (if a1 < 1 then (some (-1)) else (if (IntKind.u64.wrap (a1)) = 0 then (none) else (some (wrap64 (Int.tmod (IntKind.u64.wrap (a0)) (IntKind.u64.wrap (a1))))))) = some r := h
  clear h
  by_cases c3 : a1 < 1
  · rw [if_pos c3] at H
    have c3b0 : decide (a1 < 1) = true := decide_eq_true c3
    clear c3
    obtain rfl := Option.some.inj H
    go_enter Try.func17, Try.ntmps17
    go_wp2
    go_ret
    exact ⟨by first | rfl | (simp; done) | (simp [*]; done), by repeat (first | exact Drawn0.refl _ | apply Drawn0.step)⟩
  · rw [if_neg c3] at H
    have c3b0 : decide (a1 < 1) = false := decide_eq_false c3
    clear c3
    by_cases c4 : (IntKind.u64.wrap (a1)) = 0
    · rw [if_pos c4] at H
      exact absurd H (by simp)
    · rw [if_neg c4] at H
      have c4b0 : ((IntKind.u64.wrap (a1)) == 0) = false := beq_eq_false_iff_ne.mpr c4
      have c4b1 : ((IntKind.u64.wrap (a1)) != 0) = true := bne_iff_ne.mpr c4
      obtain rfl := Option.some.inj H
      go_enter Try.func17, Try.ntmps17
      go_wp2
      go_ret
      exact ⟨by first | rfl | (simp; done) | (simp [*]; done), by repeat (first | exact Drawn0.refl _ | apply Drawn0.step)⟩
open Go.RowKit Go.Maps Go.Proofs.YtlcnckbmolefpaaW.PrintWords Go.Proofs.YtlcnckbmolefpaaW.PrintLast Go.Proofs.YtlcnckbmolefpaaW.PrintMore
def whoV (p m : Int) : Int := Int.tmod (IntKind.u64.wrap p) m
theorem u64_pos (p : Int) : 0 ≤ IntKind.u64.wrap p := by simp [IntKind.wrap, IntKind.bits, IntKind.signed]; omega
theorem whoV_nonneg (p : Int) {m : Int} (h : 1 ≤ m) : 0 ≤ whoV p m := Int.tmod_nonneg _ (u64_pos p)
theorem whoV_lt (p : Int) {m : Int} (h : 1 ≤ m) : whoV p m < m := Int.tmod_lt_of_pos _ (by omega)
theorem who_eq (p : Int) {m : Int} (h : 1 ≤ m) (h2 : m ≤ 1000000) : pick_Who.f p m = some (whoV p m) := by
  have e : IntKind.u64.wrap m = m := by simp [IntKind.wrap, IntKind.bits, IntKind.signed]; omega
  have a := whoV_nonneg p h
  have b := whoV_lt p h
  unfold pick_Who.f
  rw [if_neg (by omega), e, if_neg (by omega)]
  show some (wrap64 (whoV p m)) = _
  rw [show wrap64 (whoV p m) = whoV p m by unfold wrap64; omega]
def lastv (L : List Int) (m x : Int) : Nat → Int
  | 0 => -1
  | i + 1 => if whoV (rd L i) m = x then (i : Int) else lastv L m x i
def fairAt (L : List Int) (m win : Int) (i : Nat) : Bool := decide ((i : Int) + 1 < win) || (List.range m.toNat).all fun x => decide (lastv L m x (i + 1) > (i : Int) - win)
def fairB (L : List Int) (m win : Int) : Bool := decide (1 ≤ win) && (List.range L.length).all (fairAt L m win)
def pick_Fair.f (l0 : List Int) (a1 a2 : Int) : Option Bool := if 0 ≤ a1 ∧ l0.length ≤ 1000000 then (if a1 ≤ 1000000 then some (fairB l0 a1 a2) else none) else none
structure MapIs (D : DataW Unit) (m : Int) (f : Int → Int) : Prop where
  isMap : IsMap D
  has : ∀ x : Int, Maps.has D (.int .i64 x) = decide (0 ≤ x ∧ x < m)
  at_ : ∀ x : Int, 0 ≤ x → x < m → ∀ z, D.atKey (.int .i64 x) z = .lit (.int .i64 (f x))
theorem mapIs_nil (f : Int → Int) : MapIs (.map []) 0 f := ⟨⟨[], rfl⟩, fun x => by rw [show Maps.has (.map [] : DataW Unit) (.int .i64 x) = false from rfl]; symm; exact decide_eq_false (by omega), fun x h0 h1 => by omega⟩
theorem key_ne {x y : Int} (h : x ≠ y) : (Lit.int .i64 x) ≠ Lit.int .i64 y := fun e => h (by injection e)
theorem mapIs_more {D : DataW Unit} {m : Int} {f : Int → Int} (h : MapIs D m f) (hm : 0 ≤ m) : MapIs (D.put (.int .i64 m) (.lit (.int .i64 (f m)))) (m + 1) f := by
  refine ⟨h.isMap.put _ _, fun x => ?_, fun x h0 h1 z => ?_⟩
  · by_cases e : x = m
    · subst e; rw [has_put_same (k := .int .i64 x) h.isMap trivial]; symm; exact decide_eq_true (by omega)
    · rw [has_put_other (key_ne e), h.has]; apply decide_eq_decide.2; omega
  · by_cases e : x = m
    · subst e; rw [atKey_put_same (k := .int .i64 x) h.isMap trivial]
    · rw [atKey_put_other (key_ne e)]; exact h.at_ x h0 (by omega) z
theorem mapIs_set {D : DataW Unit} {m : Int} {f g : Int → Int} {y v : Int} (h : MapIs D m f) (h0 : 0 ≤ y) (h1 : y < m) (hg : ∀ x, g x = if y = x then v else f x) : MapIs (D.put (.int .i64 y) (.lit (.int .i64 v))) m g := by
  refine ⟨h.isMap.put _ _, fun x => ?_, fun x a0 a1 z => ?_⟩
  · by_cases e : x = y
    · subst e; rw [has_put_same (k := .int .i64 x) h.isMap trivial]; symm; exact decide_eq_true (by omega)
    · rw [has_put_other (key_ne e), h.has]
  · rw [hg x]
    by_cases e : x = y
    · subst e; rw [atKey_put_same (k := .int .i64 x) h.isMap trivial, if_pos rfl]
    · rw [atKey_put_other (key_ne e), if_neg (fun k => e k.symm)]; exact h.at_ x a0 a1 z
theorem law3 : Keyed Try.prog 3 := int_keyed Try.underlying3
theorem fair_no {L : List Int} {m win : Int} {i : Nat} (hi : i < L.length) (h1 : ¬ (i : Int) + 1 < win) {x : Int} (h2 : 0 ≤ x) (h3 : x < m) (h : lastv L m x (i + 1) ≤ (i : Int) - win) : fairB L m win = false := by
  unfold fairB
  rw [Bool.and_eq_false_iff]
  right
  rw [List.all_eq_false]
  refine ⟨i, List.mem_range.2 hi, ?_⟩
  unfold fairAt
  rw [Bool.not_eq_true, Bool.or_eq_false_iff]
  refine ⟨decide_eq_false h1, List.all_eq_false.2 ⟨x.toNat, List.mem_range.2 (by omega), ?_⟩⟩
  rw [show ((x.toNat : Nat) : Int) = x by omega]
  simp only [decide_eq_true_eq]
  omega
theorem fair_yes {L : List Int} {m win : Int} (hw : 1 ≤ win) (h : ∀ i : Nat, i < L.length → fairAt L m win i = true) : fairB L m win = true := by
  unfold fairB
  rw [Bool.and_eq_true]
  exact ⟨decide_eq_true hw, List.all_eq_true.2 fun i hi => h i (List.mem_range.1 hi)⟩
theorem fairAt_short {L : List Int} {m win : Int} {i : Nat} (h : (i : Int) + 1 < win) : fairAt L m win i = true := by unfold fairAt; rw [decide_eq_true h]; rfl
theorem fairAt_all {L : List Int} {m win : Int} {i : Nat} (h : ∀ x : Int, 0 ≤ x → x < m → lastv L m x (i + 1) > (i : Int) - win) : fairAt L m win i = true := by
  unfold fairAt
  rw [Bool.or_eq_true]
  refine Or.inr (List.all_eq_true.2 fun x hx => ?_)
  have := List.mem_range.1 hx
  exact decide_eq_true (h x (by omega) (by omega))
theorem mapIs_zero {D : DataW Unit} {m : Int} {f g : Int → Int} (h : MapIs D m f) (h0 : ¬ m > 0) : MapIs D m g := ⟨h.isMap, h.has, fun x a b => by omega⟩
theorem mapIs_step {L : List Int} {D : DataW Unit} {m i y : Int} (h : MapIs D m (fun x => lastv L m x i.toNat)) (h0 : 0 ≤ i) (hm : 0 < m) (hy : y = whoV (rd L i) m) : MapIs (D.put (.int .i64 y) (.lit (.int .i64 i))) m (fun x => lastv L m x (i + 1).toNat) := by
  subst hy
  refine mapIs_set h (whoV_nonneg _ (by omega)) (whoV_lt _ (by omega)) (fun x => ?_)
  show lastv L m x (i + 1).toNat = _
  rw [show (i + 1).toNat = i.toNat + 1 by omega, lastv, show ((i.toNat : Nat) : Int) = i by omega]
theorem fair_left {L : List Int} {D : DataW Unit} {m i win x c : Int} {left : Lit → Bool} (hD : MapIs D m (fun x => lastv L m x (i + 1).toNat)) (h : ∀ y : Int, 0 ≤ y → y < m → left (.int .i64 y) = false → lastv L m y (i + 1).toNat > i - win) (hat : ∀ zd, D.atKey (.int .i64 x) zd = .lit (.int .i64 c)) (hc : ¬ c ≤ i - win) :
    ∀ y : Int, 0 ≤ y → y < m → (left (.int .i64 y) && !(Lit.int .i64 y).sameKey (.int .i64 x)) = false → lastv L m y (i + 1).toNat > i - win := by
  intro y h0 h1 hy
  by_cases e : y = x
  · subst e
    have := hD.at_ y h0 h1 .nil
    rw [hat] at this
    injection this with this
    injection this with _ this
    rw [this] at hc
    exact Int.not_le.1 hc
  · rw [sameKey_ne (key_ne e)] at hy
    exact h y h0 h1 (by simpa using hy)
theorem fair_hit {L : List Int} {D : DataW Unit} {m i win x c : Int} (hi0 : 0 ≤ i) (hi : i < L.length) (hw : ¬ i + 1 < win) (hD : MapIs D m (fun x => lastv L m x (i + 1).toNat)) (hat : ∀ zd, D.atKey (.int .i64 x) zd = .lit (.int .i64 c)) (hc : c ≤ i - win) : fairB L m win = false := by
  have hx : 0 ≤ x ∧ x < m := of_decide_eq_true (by rw [← hD.has]; exact has_true_of_atKey hat)
  have e := hD.at_ x hx.1 hx.2 .nil
  rw [hat] at e
  injection e with e
  injection e with _ e
  rw [e] at hc
  have n1 : ((i.toNat : Nat) : Int) = i := by omega
  exact fair_no (i := i.toNat) (by omega) (by omega) hx.1 hx.2 (by rw [show i.toNat + 1 = (i + 1).toNat by omega, n1]; exact hc)
theorem fair_step {L : List Int} {m i win : Int} (hi0 : 0 ≤ i) (h : ∀ j : Nat, (j : Int) < i → fairAt L m win j = true) (hi : fairAt L m win i.toNat = true) : ∀ j : Nat, (j : Int) < i + 1 → fairAt L m win j = true := by
  intro j hj
  by_cases e : (j : Int) < i
  · exact h j e
  · rw [show j = i.toNat by omega]; exact hi
theorem fair_round {L : List Int} {m i win : Int} {left : Lit → Bool} (hi0 : 0 ≤ i) (h : ∀ y : Int, 0 ≤ y → y < m → left (.int .i64 y) = false → lastv L m y (i + 1).toNat > i - win) (hl : ∀ k, left k = false) : fairAt L m win i.toNat = true := by
  refine fairAt_all fun x h0 h1 => ?_
  have := h x h0 h1 (hl _)
  rw [show i.toNat + 1 = (i + 1).toNat by omega, show ((i.toNat : Nat) : Int) = i by omega]
  exact this
set_option maxHeartbeats 1000000 in
set_option maxRecDepth 100000 in
theorem pick_Fair.calls (A0 : Option Addr) (c0 : Nat) (l0 : List Int) (a1 a2 : Int) (r : Bool) (w : World) (hr0 : Kd.C (Kd.int .i64) w A0 l0.length l0) (hc0 : l0.length ≤ c0) (h : pick_Fair.f l0 a1 a2 = some r) :
    Calls Try.prog 22 #[.slice A0 l0.length c0, .int .i64 a1, .int .i64 a2] w fun e w' => e = .returned (.bool r) ∧ Below w.heap.size w w' := by
  unfold pick_Fair.f at h
  by_cases m0 : 0 ≤ a1 ∧ l0.length ≤ 1000000
  · rw [if_pos m0] at h
    obtain ⟨m0, lm⟩ := m0
    by_cases m1 : a1 ≤ 1000000
    · rw [if_pos m1] at h
      obtain rfl := Option.some.inj h
      clear h
      have HR := Aside0.mk hr0
      have hm := hr0.2.1
      clear hr0 hc0
      by_cases hw : a2 < 1
      · have e : fairB l0 a1 a2 = false := by unfold fairB; rw [decide_eq_false (by omega)]; rfl
        have E := Aside0.mk e
        have hwb := decide_eq_true hw
        clear e hw
        go_enter Try.func22, Try.ntmps22
        go_wp2
        go_ret
        exact ⟨by rw [E.out]; rfl, Below.refl _ _⟩
      · have hmm := @run_makeMap Try.prog
        have hw1 : 1 ≤ a2 := by omega
        have hwb := decide_eq_false hw
        have hmx : max a1 0 = a1 := by omega
        clear hw
        go_enter Try.func22, Try.ntmps22
        go_wp2
        go_loopw [18] (fun v18 wr => ∃ (j : Int) (D : DataW Unit), v18 = .int .i64 j ∧ Aside0 (0 ≤ j ∧ j ≤ a1 ∧ MapIs D j (fun _ => -1) ∧ wr.ownsMap Try.prog 3 (plainElem Try.prog 3) w.heap.size j.toNat D ∧ Below w.heap.size w wr)) (fun v18 _ => (a1 - intOf v18).toNat)
        case atStart => exact ⟨0, .map [], rfl, ⟨by omega, m0, mapIs_nil _, World.ownsMap_made _ _ _ _, (Below.refl _ _).alloc (Nat.le_refl _) _⟩⟩
        case round =>
          obtain ⟨j, D, rfl, HJ⟩ := hrel
          have j0 := HJ.out.1
          have j1 := HJ.out.2.1
          by_cases hlt : j < a1
          · have hltb := decide_eq_true hlt
            go_wp2_with (first | (at_mapUpdate; refine wpList_mapUpdate_own _ rfl _ _ _ 125 rfl 3 3 law3 Try.underlying125 _ w.heap.size _ _ rfl HJ.out.2.2.2.1 (by unfold maxLen; omega) _ _ _ rfl rfl (keyOf_int_mk Try.underlying3 (a := j) (WalkArith.wf_i64 (by omega))) _ [] (plainElem_int Try.underlying3 (by decide)) ?_; intro w2 hout2 hg2; go_frame))
            go_roundw
            case rel => exact ⟨j + 1, _, by go_num, ⟨by omega, by omega, mapIs_more HJ.out.2.2.1 j0, by rw [show (j + 1).toNat = j.toNat + 1 by omega]; exact hout2, HJ.out.2.2.2.2.grown hg2 HJ.out.2.2.2.2.size (fun k hk => by cases hk; exact Nat.le_refl _)⟩⟩
            case measure => simp [intOf]; omega
          · have hltb := decide_eq_false hlt
            obtain rfl : j = a1 := by omega
            have HJ2 := Aside0.mk HJ.out.2.2
            clear HJ
            obtain ⟨wo, rfl⟩ : ∃ wo : World, wo = wr := ⟨_, rfl⟩
            go_wp2
            go_loopw [26] (fun v26 wr => ∃ (i : Int) (D : DataW Unit), v26 = .int .i64 i ∧ Aside0 (0 ≤ i ∧ i ≤ l0.length ∧ MapIs D j (fun x => lastv l0 j x i.toNat) ∧ wr.ownsMap Try.prog 3 (plainElem Try.prog 3) w.heap.size (j.toNat + i.toNat) D ∧ Below w.heap.size w wr ∧ ∀ q : Nat, (q : Int) < i → fairAt l0 j a2 q = true)) (fun v26 _ => (l0.length - intOf v26).toNat)
            case atStart => exact ⟨0, D, rfl, ⟨by omega, by omega, HJ2.out.1, HJ2.out.2.1, HJ2.out.2.2, fun q hq => by omega⟩⟩
            case round =>
              obtain ⟨i, D, rfl, HI⟩ := hrel
              have i0 := HI.out.1
              have i1 := HI.out.2.1
              by_cases hlt : i < (l0.length : Int)
              · have hltb := decide_eq_true hlt
                obtain ⟨ad, rfl, hx⟩ := Kd.at_int (Kd.C_below HR.out HI.out.2.2.2.2.1) i i0 hlt
                by_cases hp : j > 0
                · have hpb := decide_eq_true hp
                  have WH := Aside0.mk (who_eq (rd l0 i) (m := j) (by omega) m1)
                  have wn := whoV_nonneg (rd l0 i) (m := j) (by omega)
                  have wl := whoV_lt (rd l0 i) (m := j) (by omega)
                  generalize hy : whoV (rd l0 i) j = y at WH wn wl
                  have HY := Aside0.mk hy
                  clear hy
                  by_cases hs : i + 1 < a2
                  · have hsb := decide_eq_true hs
                    go_wp2_with (first | (go_at_call 17; (with_reducible refine (pick_Who.calls (rd l0 i) j y _ WH.out).mono ?_); rintro e w' ⟨rfl, ⟨nd, rfl⟩⟩) | (at_mapUpdate; refine wpList_mapUpdate_own _ rfl _ _ _ 125 rfl 3 3 law3 Try.underlying125 (plainElem Try.prog 3) w.heap.size (j.toNat + i.toNat) D rfl ?hO (by unfold maxLen; omega) _ _ _ rfl rfl (keyOf_int_mk Try.underlying3 (a := y) (WalkArith.wf_i64 (by omega))) _ [] (plainElem_int Try.underlying3 (a := i) (WalkArith.wf_i64 (by omega))) ?_; (case hO => exact HI.out.2.2.2.1); intro w2 hout2 hg2; go_frame))
                    go_roundw
                    case rel => exact ⟨i + 1, _, by go_num, ⟨by omega, by omega, mapIs_step HI.out.2.2.1 i0 hp HY.out.symm, by rw [show j.toNat + (i + 1).toNat = j.toNat + i.toNat + 1 by omega]; exact hout2, (below_step HI.out.2.2.2.2.1 (Drawn0.below ⟨⟨nd, rfl⟩⟩)).grown hg2 (below_step HI.out.2.2.2.2.1 (Drawn0.below ⟨⟨nd, rfl⟩⟩)).size (fun k hk => by cases hk; exact Nat.le_refl _), fair_step i0 HI.out.2.2.2.2.2 (fairAt_short (by omega))⟩⟩
                    case measure => simp [intOf]; omega
                  · have hsb := decide_eq_false hs
                    go_wp2_with (first | (go_at_call 17; (with_reducible refine (pick_Who.calls (rd l0 i) j y _ WH.out).mono ?_); rintro e w' ⟨rfl, ⟨nd, rfl⟩⟩) | (at_mapUpdate; refine wpList_mapUpdate_own _ rfl _ _ _ 125 rfl 3 3 law3 Try.underlying125 (plainElem Try.prog 3) w.heap.size (j.toNat + i.toNat) D rfl ?hO (by unfold maxLen; omega) _ _ _ rfl rfl (keyOf_int_mk Try.underlying3 (a := y) (WalkArith.wf_i64 (by omega))) _ [] (plainElem_int Try.underlying3 (a := i) (WalkArith.wf_i64 (by omega))) ?_; (case hO => exact HI.out.2.2.2.1); intro w2 hout2 hg2; go_frame) | (at_range; have _t := hout2; refine wpList_range_own _ rfl _ 125 rfl 3 3 law3 Try.underlying125 (plainElem Try.prog 3) w.heap.size (j.toNat + i.toNat + 1) _ rfl hout2 ?_; intro w3 hrg3 hg3 hs3))
                    have HB2 := Aside0.mk ((below_step HI.out.2.2.2.2.1 (Drawn0.below ⟨⟨nd, rfl⟩⟩)).grown hg2 (below_step HI.out.2.2.2.2.1 (Drawn0.below ⟨⟨nd, rfl⟩⟩)).size (fun k hk => by cases hk; exact Nat.le_refl _))
                    have HB3 := Aside0.mk (HB2.out.grown hg3 HB2.out.size (fun k hk => by cases hk))
                    have HM := Aside0.mk (mapIs_step HI.out.2.2.1 i0 hp HY.out.symm)
                    have HRG := Aside0.mk hrg3
                    clear hrg3 hg3 hs3
                    (try go_frame)
                    go_loopw [12] (fun _ wr => Aside0 (∃ (left : Lit → Bool) (cnt : Nat), wr.ranges Try.prog 3 (plainElem Try.prog 3) w.heap.size w2.heap.size (j.toNat + i.toNat + 1) (D.put (.int .i64 y) (.lit (.int .i64 i))) left cnt ∧ Below w.heap.size w wr ∧ ∀ y : Int, 0 ≤ y → y < j → left (.int .i64 y) = false → lastv l0 j y (i + 1).toNat > i - a2)) (fun _ wr => wr.rangeLeft w.heap.size w2.heap.size)
                    case atStart => exact ⟨_, _, HRG.out, HB3.out, fun y h0 h1 h2 => by rw [HM.out.has] at h2; simp at h2; omega⟩
                    case round =>
                      obtain ⟨left, cnt, hrg, hbr, hlf⟩ := hrel.out
                      clear hrel
                      have HLF := Aside0.mk hlf
                      have HBR := Aside0.mk hbr
                      have HQ := Aside0.mk hrg
                      clear hlf hbr hrg
                      go_wp2_with (first | (at_next; refine wpList_next_ranges_ii _ rfl _ rfl 3 3 .i64 .i64 law3 Try.underlying3 Try.underlying3 w.heap.size w2.heap.size (j.toNat + i.toNat + 1) (D.put (.int .i64 y) (.lit (.int .i64 i))) left cnt rfl HQ.out ?_ ?_))
                      · intro _ hl0
                        have HS := Aside0.mk (fair_step i0 HI.out.2.2.2.2.2 (fair_round i0 HLF.out hl0))
                        clear hl0
                        go_wp2
                        go_roundw
                        case rel => exact ⟨i + 1, (D.put (.int .i64 y) (.lit (.int .i64 i))), by go_num, ⟨by omega, by omega, HM.out, by rw [show j.toNat + (i + 1).toNat = j.toNat + i.toNat + 1 by omega]; exact HQ.out.owns, HBR.out, HS.out⟩⟩
                        case measure => simp [intOf]; omega
                      · intro x c w1 cnt1 hwx hwc hlx hat hrg1 hlt1 hg1 hs1 hen
                        have HAT := Aside0.mk hat
                        have HG1 := Aside0.mk hrg1
                        have HLT1 := Aside0.mk hlt1
                        have HB1 := Aside0.mk (HBR.out.grown hg1 HBR.out.size (fun k hk => by cases hk; exact HB2.out.size))
                        clear hat hrg1 hlt1 hg1 hs1 hlx
                        by_cases hc : c ≤ i - a2
                        · have hcb := decide_eq_true hc
                          have HF := Aside0.mk (fair_hit i0 hlt (by omega) HM.out HAT.out hc)
                          go_wp2
                          go_ret
                          exact ⟨by rw [HF.out]; rfl, HB1.out⟩
                        · have hcb := decide_eq_false hc
                          have HN := Aside0.mk (fair_left HM.out HLF.out HAT.out hc)
                          go_wp2
                          go_roundw
                          case rel => exact ⟨⟨_, cnt1, HG1.out, HB1.out, HN.out⟩⟩
                          case measure => rw [HG1.out.left_eq, HQ.out.left_eq]; exact HLT1.out
                · have hpb := decide_eq_false hp
                  by_cases hs : i + 1 < a2
                  · have hsb := decide_eq_true hs
                    go_wp2
                    go_roundw
                    case rel => exact ⟨i + 1, D, by go_num, ⟨by omega, by omega, mapIs_zero HI.out.2.2.1 (by omega), by rw [show j.toNat + (i + 1).toNat = j.toNat + i.toNat + 1 by omega]; exact HI.out.2.2.2.1.mono (Nat.le_succ _), HI.out.2.2.2.2.1, fair_step i0 HI.out.2.2.2.2.2 (fairAt_short (by omega))⟩⟩
                    case measure => simp [intOf]; omega
                  · have hsb := decide_eq_false hs
                    obtain ⟨wi, rfl⟩ : ∃ wi : World, wi = wr := ⟨_, rfl⟩
                    go_wp2_with (first | (at_range; refine wpList_range_own _ rfl _ 125 rfl 3 3 law3 Try.underlying125 (plainElem Try.prog 3) w.heap.size (j.toNat + i.toNat) D rfl HI.out.2.2.2.1 ?_; intro w3 hrg3 hg3 hs3))
                    have HB3 := Aside0.mk (HI.out.2.2.2.2.1.grown hg3 HI.out.2.2.2.2.1.size (fun k hk => by cases hk))
                    have HM := Aside0.mk (mapIs_zero (g := fun x => lastv l0 j x (i + 1).toNat) HI.out.2.2.1 (by omega))
                    have HRG := Aside0.mk hrg3
                    clear hrg3 hg3 hs3
                    (try go_frame)
                    go_loopw [12] (fun _ wr => Aside0 (∃ (left : Lit → Bool) (cnt : Nat), wr.ranges Try.prog 3 (plainElem Try.prog 3) w.heap.size wi.heap.size (j.toNat + i.toNat) D left cnt ∧ Below w.heap.size w wr ∧ ∀ y : Int, 0 ≤ y → y < j → left (.int .i64 y) = false → lastv l0 j y (i + 1).toNat > i - a2)) (fun _ wr => wr.rangeLeft w.heap.size wi.heap.size)
                    case atStart => exact ⟨_, _, HRG.out, HB3.out, fun y h0 h1 h2 => by rw [HM.out.has] at h2; simp at h2; omega⟩
                    case round =>
                      obtain ⟨left, cnt, hrg, hbr, hlf⟩ := hrel.out
                      clear hrel
                      have HLF := Aside0.mk hlf
                      have HBR := Aside0.mk hbr
                      have HQ := Aside0.mk hrg
                      clear hlf hbr hrg
                      go_wp2_with (first | (at_next; refine wpList_next_ranges_ii _ rfl _ rfl 3 3 .i64 .i64 law3 Try.underlying3 Try.underlying3 w.heap.size wi.heap.size (j.toNat + i.toNat) D left cnt rfl HQ.out ?_ ?_))
                      · intro _ hl0
                        have HS := Aside0.mk (fair_step i0 HI.out.2.2.2.2.2 (fair_round i0 HLF.out hl0))
                        clear hl0
                        go_wp2
                        go_roundw
                        case rel => exact ⟨i + 1, D, by go_num, ⟨by omega, by omega, HM.out, by rw [show j.toNat + (i + 1).toNat = j.toNat + i.toNat + 1 by omega]; exact HQ.out.owns.mono (Nat.le_succ _), HBR.out, HS.out⟩⟩
                        case measure => simp [intOf]; omega
                      · intro x c w1 cnt1 hwx hwc hlx hat hrg1 hlt1 hg1 hs1 hen
                        have HAT := Aside0.mk hat
                        have HG1 := Aside0.mk hrg1
                        have HLT1 := Aside0.mk hlt1
                        have HB1 := Aside0.mk (HBR.out.grown hg1 HBR.out.size (fun k hk => by cases hk; exact HI.out.2.2.2.2.1.size))
                        clear hat hrg1 hlt1 hg1 hs1 hlx
                        by_cases hc : c ≤ i - a2
                        · have hcb := decide_eq_true hc
                          have HF := Aside0.mk (fair_hit i0 hlt (by omega) HM.out HAT.out hc)
                          go_wp2
                          go_ret
                          exact ⟨by rw [HF.out]; rfl, HB1.out⟩
                        · have hcb := decide_eq_false hc
                          have HN := Aside0.mk (fair_left HM.out HLF.out HAT.out hc)
                          go_wp2
                          go_roundw
                          case rel => exact ⟨⟨_, cnt1, HG1.out, HB1.out, HN.out⟩⟩
                          case measure => rw [HG1.out.left_eq, HQ.out.left_eq]; exact HLT1.out
              · have hltb := decide_eq_false hlt
                have hfin : fairB l0 j a2 = true := fair_yes hw1 (fun q hq => HI.out.2.2.2.2.2 q (by omega))
                have HF := Aside0.mk hfin
                clear hfin
                go_wp2
                go_ret
                exact ⟨by rw [HF.out]; rfl, HI.out.2.2.2.2.1⟩
    · rw [if_neg m1] at h; cases h
  · rw [if_neg m0] at h; cases h
open Go.RowKit Go.Maps Go.Proofs.Ytlcnckbmolefpaa.CK Go.Proofs.YtlcnckbmolefpaaW.PrintWords Go.Proofs.YtlcnckbmolefpaaW.PrintLast Go.Proofs.YtlcnckbmolefpaaW.PrintMore
attribute [local go_sem] max2_int min2_int max_two min_two
structure MS where
  words : List Int
  boxes : List (List S143)
  latches : List Int
  beds : Int → Option Int
  nb : Nat
  log : List S128
def BedIs (D : DataW Unit) (f : Int → Option Int) : Prop := ∀ x : Int, Maps.has D (.int .i64 x) = (f x).isSome ∧ ∀ v, f x = some v → ∀ z, D.atKey (.int .i64 x) z = .lit (.int .i64 v)
def BedR (w : World) (b n : Nat) (f : Int → Option Int) : Prop := ∃ D, w.ownsMap Try.prog 3 (plainElem Try.prog 3) b n D ∧ BedIs D f
theorem BedR.kept {w w' : World} {row : Option Nat} {b n : Nat} {f : Int → Option Int} (h : BedR w b n f) (hg : w.grownBy w' row) (hne : some b ≠ row) : BedR w' b n f := by
  obtain ⟨D, h, hr⟩ := h; exact ⟨D, h.kept hg hne, hr⟩
theorem BedR.same {w w' : World} {b n : Nat} {f : Int → Option Int} (h : BedR w b n f) (e : w'.heap[b]? = w.heap[b]?) : BedR w' b n f := by
  obtain ⟨D, ⟨es, cl, hb, F, hs, hD⟩, hr⟩ := h
  exact ⟨D, ⟨es, cl, e.trans hb, F, hs, hD⟩, hr⟩
theorem BedR.lt {w : World} {b n : Nat} {f : Int → Option Int} (h : BedR w b n f) : b < w.heap.size := by obtain ⟨D, h, _⟩ := h; exact h.lt
theorem BedR.mono {w : World} {b n n' : Nat} {f : Int → Option Int} (h : BedR w b n f) (hn : n ≤ n') : BedR w b n' f := by obtain ⟨D, h, hr⟩ := h; exact ⟨D, h.mono hn, hr⟩
theorem BedR.made (w : World) : BedR (w.alloc (.map #[] 0)) w.heap.size 0 (fun _ => none) := ⟨.map [], World.ownsMap_made w Try.prog 3 _, fun x => ⟨rfl, fun v h => by cases h⟩⟩
structure MemV (w : World) (base : Nat) (own : Nat → Prop) (g bm : Nat) (vw vb vl vo : Value) (M : MS) : Prop where
  hg : w.heap[g]? = some (.cells #[vw, vb, vl, .map (some bm), vo] 137 (0, 0))
  og : own g
  bg : base ≤ g
  hw : Kd.R (Kd.int .u64) 29 w base own vw M.words
  hb : Kd.R (Kd.slice 143 k143) 57 w base own vb M.boxes
  hl : Kd.R (Kd.int .i64) 3 w base own vl M.latches
  ho : Kd.R k128 128 w base own vo M.log
  om : own bm
  bb : base ≤ bm
  hm : BedR w bm M.nb M.beds
def MemR (w : World) (base : Nat) (own : Nat → Prop) (g : Nat) (M : MS) : Prop := ∃ bm vw vb vl vo, MemV w base own g bm vw vb vl vo M
theorem MemV.step {w w' : World} {base : Nat} {own : Nat → Prop} {g bm : Nat} {vw vb vl vo : Value} {M : MS} (h : MemV w base own g bm vw vb vl vo M) (hm : ∀ k, own k → k < w.heap.size → w'.heap[k]? = w.heap[k]?) : MemV w' base own g bm vw vb vl vo M :=
  ⟨(hm g h.og (blk_lt h.hg)).trans h.hg, h.og, h.bg, Kd.R_step h.hw hm, Kd.R_step h.hb hm, Kd.R_step h.hl hm, Kd.R_step h.ho hm, h.om, h.bb, h.hm.same (hm bm h.om h.hm.lt)⟩
theorem MemR.step {w w' : World} {base : Nat} {own : Nat → Prop} {g : Nat} {M : MS} (h : MemR w base own g M) (hm : ∀ k, own k → k < w.heap.size → w'.heap[k]? = w.heap[k]?) : MemR w' base own g M := by
  obtain ⟨bm, vw, vb, vl, vo, h⟩ := h; exact ⟨bm, vw, vb, vl, vo, h.step hm⟩
theorem MemR.below {w w' : World} {base : Nat} {own : Nat → Prop} {g : Nat} {M : MS} (h : MemR w base own g M) (hb : Below w.heap.size w w') : MemR w' base own g M := h.step (fun k _ hk => hb.block k hk)
theorem MemR.kept {w w' : World} {base : Nat} {own : Nat → Prop} {S : Nat → Prop} {g : Nat} {M : MS} (h : MemR w base own g M) (hk : Kept w w' S) (hne : ∀ k, own k → ¬ S k) : MemR w' base own g M := h.step (fun k ho hlt => hk.2 k hlt (hne k ho))
theorem MemV.mono {w : World} {base : Nat} {own own' : Nat → Prop} {g bm : Nat} {vw vb vl vo : Value} {M : MS} (h : MemV w base own g bm vw vb vl vo M) (hm : ∀ k, own k → own' k) : MemV w base own' g bm vw vb vl vo M :=
  ⟨h.hg, hm _ h.og, h.bg, Kd.R_mono h.hw hm, Kd.R_mono h.hb hm, Kd.R_mono h.hl hm, Kd.R_mono h.ho hm, hm _ h.om, h.bb, h.hm⟩
theorem MemV.bound {w : World} {base : Nat} {own : Nat → Prop} {g bm : Nat} {vw vb vl vo : Value} {M : MS} (h : MemV w base own g bm vw vb vl vo M) : MemV w base (fun k => own k ∧ k < w.heap.size) g bm vw vb vl vo M :=
  ⟨h.hg, ⟨h.og, blk_lt h.hg⟩, h.bg, Kd.R_mono (Kd.R_bound h.hw) (fun k hk => ⟨hk.1, hk.2.2.1⟩), Kd.R_mono (Kd.R_bound h.hb) (fun k hk => ⟨hk.1, hk.2.2.1⟩), Kd.R_mono (Kd.R_bound h.hl) (fun k hk => ⟨hk.1, hk.2.2.1⟩), Kd.R_mono (Kd.R_bound h.ho) (fun k hk => ⟨hk.1, hk.2.2.1⟩), ⟨h.om, h.hm.lt⟩, h.bb, h.hm⟩
theorem MemV.cell {w : World} {base : Nat} {own : Nat → Prop} {g bm : Nat} {vw vb vl vo : Value} {M : MS} (h : MemV w base own g bm vw vb vl vo M) : w.cell? ⟨g, 0, none⟩ = some vw ∧ w.cell? ⟨g, 1, none⟩ = some vb ∧ w.cell? ⟨g, 2, none⟩ = some vl ∧ w.cell? ⟨g, 3, none⟩ = some (.map (some bm)) ∧ w.cell? ⟨g, 4, none⟩ = some vo ∧ w.frozen? ⟨g, 4, none⟩ = false := by
  refine ⟨?_, ?_, ?_, ?_, ?_, blk_frozen h.hg 4⟩ <;> (rw [blk_cell h.hg]; rfl)
theorem Asleep_V (who : Int) (hwho : (Lit.int .i64 who).wf = true) (W : World) {base : Nat} {own : Nat → Prop} {g bm : Nat} {vw vb vl vo : Value} {M : MS} (h : MemV W base own g bm vw vb vl vo M) : Calls Try.prog 44 #[.pointer (some ⟨g, 0, none⟩), .int .i64 who] W fun e w' => e = .returned (.bool (M.beds who).isSome) ∧ w' = W := by
  obtain ⟨-, -, -, hx3, -, -⟩ := h.cell
  obtain ⟨D, hD, hB⟩ := h.hm
  have HD := Aside0.mk hD
  have HB := Aside0.mk hB
  have HW := Aside0.mk hwho
  clear hD hB hwho h
  go_enter Try.func44, Try.ntmps44
  go_wp2_with (first | (at_lookup; refine wpList_lookup_own_ok_int _ rfl _ _ 125 rfl 3 3 .i64 law3 Try.underlying125 Try.underlying3 (Try.zeroValue3 _) bm _ D rfl HD.out _ _ rfl (keyOf_int_mk Try.underlying3 HW.out) ?_; intro c hat hwc; clear hat hwc))
  go_ret
  exact ⟨congrArg (fun b => Ending.returned (.bool b)) (HB.out who).1, rfl⟩
def MS.fits (M : MS) (who at_ n : Int) : Bool := decide (0 ≤ who) && decide (0 ≤ at_) && decide (at_ < n) && !(M.beds who).isSome
theorem fits_V (who at_ n : Int) (hwho : (Lit.int .i64 who).wf = true) (W : World) {base : Nat} {own : Nat → Prop} {g bm : Nat} {vw vb vl vo : Value} {M : MS} (h : MemV W base own g bm vw vb vl vo M) : Calls Try.prog 86 #[.pointer (some ⟨g, 0, none⟩), .int .i64 who, .int .i64 at_, .int .i64 n] W fun e w' => e = .returned (.bool (M.fits who at_ n)) ∧ w' = W := by
  have H := Aside0.mk h
  have HW := Aside0.mk hwho
  clear h hwho
  go_enter Try.func86, Try.ntmps86
  by_cases h1 : 0 ≤ who
  · by_cases h2 : 0 ≤ at_
    · by_cases h3 : at_ < n
      · have d1 := decide_eq_true h1
        have d2 := decide_eq_true h2
        have d3 := decide_eq_true h3
        go_wp2_with (first | (go_at_call 44; (with_reducible refine (Asleep_V who HW.out W H.out).mono ?_); rintro e w1 ⟨rfl, rfl⟩))
        go_ret
        exact ⟨by simp [MS.fits, h1, h2, h3], rfl⟩
      · have d1 := decide_eq_true h1
        have d2 := decide_eq_true h2
        have d3 := decide_eq_false h3
        go_wp2
        go_ret
        exact ⟨by rw [MS.fits, d3]; simp, rfl⟩
    · have d1 := decide_eq_true h1
      have d2 := decide_eq_false h2
      go_wp2
      go_ret
      exact ⟨by rw [MS.fits, d2]; simp, rfl⟩
  · have d1 := decide_eq_false h1
    go_wp2
    go_ret
    exact ⟨by rw [MS.fits, d1]; simp, rfl⟩
theorem Time_V (W : World) {base : Nat} {own : Nat → Prop} {g bm : Nat} {vw vb vl vo : Value} {M : MS} (h : MemV W base own g bm vw vb vl vo M) : Calls Try.prog 43 #[.pointer (some ⟨g, 0, none⟩)] W fun e w' => e = .returned (.int .i64 (M.log.length : Int)) ∧ w' = W := by
  obtain ⟨-, -, -, -, hx4, -⟩ := h.cell
  obtain ⟨A, c, rfl⟩ := Kd.R_slice h.ho
  clear h
  go_enter Try.func43, Try.ntmps43
  go_wp2
  go_ret
  exact ⟨rfl, rfl⟩
theorem R_any {α : Type} {d : Kd α} {e : Nat} {w : World} {base : Nat} {ok : Nat → Prop} {v : Value} {xs : List α} (h : Kd.R d e w base ok v xs) : ∃ A n c, v = .slice A n c := by
  obtain ⟨A, c, e⟩ := Kd.R_slice h
  exact ⟨A, _, c, e⟩
section
variable {w w1 : World} {base : Nat} {own : Nat → Prop} {g bm : Nat} {vw vb vl vo : Value} {M : MS}
theorem MemV.rest {row : Option Nat} {e : Nat} (h : MemV w base own g bm vw vb vl vo M) (hty : ∀ k, row = some k → ∃ cells, w.heap[k]? = some (.cells cells e (0, 0))) (hg : w.grownBy w1 row) :
    (e ≠ 137 → w1.heap[g]? = some (.cells #[vw, vb, vl, .map (some bm), vo] 137 (0, 0))) ∧ (e ≠ 29 → Kd.R (Kd.int .u64) 29 w1 base own vw M.words) ∧ (e ≠ 57 → e ≠ 143 → Kd.R (Kd.slice 143 k143) 57 w1 base own vb M.boxes) ∧ (e ≠ 3 → Kd.R (Kd.int .i64) 3 w1 base own vl M.latches) ∧ (e ≠ 128 → Kd.R k128 128 w1 base own vo M.log) ∧ BedR w1 bm M.nb M.beds := by
  have key : ∀ {α : Type} {d : Kd α} {q : Nat} {u : Value} {xs : List α}, Kd.R d q w base own u xs → (∀ t, t ∈ q :: d.E → t ≠ e) → Kd.R d q w1 base own u xs := by
    intro α d q u xs hR ht
    refine Kd.R_mono (Kd.R_step (Kd.R_bound hR) (fun k hk hlt => hg.block k hlt (fun hr => ?_))) (fun k hk => hk.1)
    obtain ⟨cells, hc⟩ := hty k hr.symm
    obtain ⟨t, hq, cells', hc'⟩ := hk.2.2.2
    rw [hc] at hc'
    injection hc' with hc'
    injection hc' with _ h2
    exact ht t hq h2.symm
  refine ⟨fun he => blk_grown h.hg hg (fun hr => ?_), fun he => key h.hw ?_, fun he he2 => key h.hb ?_, fun he => key h.hl ?_, fun he => key h.ho ?_, h.hm.kept hg (fun hr => ?_)⟩
  · obtain ⟨cells, hc⟩ := hty g hr.symm
    rw [h.hg] at hc
    injection hc with hc
    injection hc with _ h2
    exact he h2.symm
  · intro t ht; cases ht with
    | head => exact fun e2 => he e2.symm
    | tail _ ht => cases ht
  · intro t ht; cases ht with
    | head => exact fun e2 => he e2.symm
    | tail _ ht => cases ht with
      | head => exact fun e2 => he2 e2.symm
      | tail _ ht => cases ht
  · intro t ht; cases ht with
    | head => exact fun e2 => he e2.symm
    | tail _ ht => cases ht
  · intro t ht; cases ht with
    | head => exact fun e2 => he e2.symm
    | tail _ ht => cases ht
  · obtain ⟨cells, hc⟩ := hty bm hr.symm
    obtain ⟨D, ⟨es, cl, hb, _⟩, _⟩ := h.hm
    rw [hb] at hc
    cases hc
theorem MemV.put_w {ws : List Int} (h : MemV w base own g bm vw vb vl vo M) (hw : Kd.R (Kd.int .u64) 29 w1 base own vw ws) (hg : w.grownBy w1 vw.ownBlock) : MemV w1 base own g bm vw vb vl vo { M with words := ws } := by
  obtain ⟨h1, h2, h3, h4, h5, h6⟩ := h.rest (fun k hk => Kd.R_typed h.hw k hk) hg
  exact ⟨h1 (by decide), h.og, h.bg, hw, h3 (by decide) (by decide), h4 (by decide), h5 (by decide), h.om, h.bb, h6⟩
theorem MemV.put_b {bs : List (List S143)} (h : MemV w base own g bm vw vb vl vo M) (hb : Kd.R (Kd.slice 143 k143) 57 w1 base own vb bs) (hg : w.grownBy w1 vb.ownBlock) : MemV w1 base own g bm vw vb vl vo { M with boxes := bs } := by
  obtain ⟨h1, h2, h3, h4, h5, h6⟩ := h.rest (fun k hk => Kd.R_typed h.hb k hk) hg
  exact ⟨h1 (by decide), h.og, h.bg, h2 (by decide), hb, h4 (by decide), h5 (by decide), h.om, h.bb, h6⟩
theorem MemV.put_o {vo' : Value} {os : List S128} (h : MemV w base own g bm vw vb vl vo M) (ho : Kd.R k128 128 w1 base own vo' os) (hg : w.grownBy w1 vo.ownBlock) : MemV (w1.setCell ⟨g, 4, none⟩ vo') base own g bm vw vb vl vo' { M with log := os } := by
  obtain ⟨h1, h2, h3, h4, h5, h6⟩ := h.rest (fun k hk => Kd.R_typed h.ho k hk) hg
  have hb := h1 (by decide)
  refine ⟨blk_put hb 4 _ rfl, h.og, h.bg, Kd.R_set (h2 (by decide)) hb ?_ 4 _, Kd.R_set (h3 (by decide) (by decide)) hb ?_ 4 _, Kd.R_set (h4 (by decide)) hb ?_ 4 _, Kd.R_set ho hb ?_ 4 _, h.om, h.bb, h6.same (Below.heap_setCell w1 ⟨g, 4, none⟩ _ bm (fun e => ?_))⟩
  · intro t ht; cases ht with
    | head => decide
    | tail _ ht => cases ht
  · intro t ht; cases ht with
    | head => decide
    | tail _ ht => cases ht with
      | head => decide
      | tail _ ht => cases ht
  · intro t ht; cases ht with
    | head => decide
    | tail _ ht => cases ht
  · intro t ht; cases ht with
    | head => decide
    | tail _ ht => cases ht
  · obtain ⟨D, ⟨es, cl, hb2, _⟩, _⟩ := h6
    rw [e] at hb2
    rw [hb] at hb2
    cases hb2
end
def MemTo (W w' : World) (base : Nat) (own : Nat → Prop) (g bm : Nat) (vw vb vl : Value) (M : MS) : Prop := ∃ vo, MemV w' base own g bm vw vb vl vo M ∧ Kept W w' own ∧ Below base W w'
def MS.note (M : MS) (who kind at_ : Int) (ok : Bool) : MS := { M with log := M.log ++ [⟨who, kind, at_, ok⟩] }
set_option maxRecDepth 100000 in
set_option maxHeartbeats 1000000 in
theorem note_V (who kind at_ : Int) (ok : Bool) (W : World) {base : Nat} {own : Nat → Prop} {g bm : Nat} {vw vb vl vo : Value} {M : MS} (h : MemV W base own g bm vw vb vl vo M) (hf : ∀ k, W.heap.size ≤ k → own k) (hlog : M.log.length ≤ 1000000) :
    Calls Try.prog 87 #[.pointer (some ⟨g, 0, none⟩), .int .i64 who, .int .i64 kind, .int .i64 at_, .bool ok] W fun e w' => e = .returned (.tuple #[]) ∧ MemTo W w' base own g bm vw vb vl (M.note who kind at_ ok) := by
  obtain ⟨-, -, -, -, hx4, hz4⟩ := h.cell
  have hbase : base ≤ W.heap.size := Nat.le_trans h.bg (Nat.le_of_lt (blk_lt h.hg))
  have hne : some g ≠ vo.ownBlock := Kd.R_ne h.ho h.hg (by decide)
  have H := Aside0.mk h
  have HF := Aside0.mk hf
  have HB := Aside0.mk hbase
  have HN := Aside0.mk hne
  have HL := Aside0.mk hlog
  clear h hf hbase hne hlog hz4
  go_enter Try.func87, Try.ntmps87
  go_wp2_with (at_builtin; (refine Kd.R_append k128 (w0 := W) base rfl (.tmp 14) (.tmp 20) 33 128 (.agg #[(.int .i64 0), (.int .i64 0), (.int .i64 0), (.bool false)]) 32 rfl Try.underlying33 info128 rfl (by decide) (by omega) vo M.log (⟨who, kind, at_, ok⟩ : S128) [.int .i64 who, .int .i64 kind, .int .i64 at_, .bool ok] own (fun _ => False) rfl rfl (k128_mkM _ _ _ (⟨who, kind, at_, ok⟩ : S128)) (fun _ hk => hk.elim) HF.out H.out.ho (Below.refl _ _) HB.out (by have := HL.out; omega) ?_; intro v1 w1 ho1 hb1 hg1 hat1; obtain ⟨A1, n1, c1, rfl⟩ := R_any ho1; have hg2 := blk_grown H.out.hg hg1 HN.out; have hx : w1.cell? ⟨g, 4, none⟩ = some vo := (blk_cell hg2 4).trans rfl; have hz := blk_frozen hg2 4; have HG1 := Aside0.mk hg1; have HO1 := Aside0.mk ho1; have HB1 := Aside0.mk hb1; clear hx4 hg2 hg1 ho1 hb1 hat1))
  ((try simp only [Exit.inBlock, Exit.then]); first | refine bodyPost_ret (results_none rfl _ _ _) rfl ?_ | refine bodyPost_end (results_none rfl _ _ _) rfl ?_)
  refine ⟨rfl, _, H.out.put_o HO1.out HG1.out, ((Kept.refl W own).of_grown HG1.out (fun k hk => .inl (H.out.ho.1 k hk))).setCell (.inl H.out.og) _, HB1.out.setCell H.out.bg _⟩
theorem MemTo.of {W : World} {base : Nat} {own : Nat → Prop} {g bm : Nat} {vw vb vl vo : Value} {M : MS} (h : MemV W base own g bm vw vb vl vo M) : MemTo W W base own g bm vw vb vl M := ⟨vo, h, Kept.refl _ _, Below.refl _ _⟩
theorem fits_at {M : MS} {who at_ n : Int} (h : M.fits who at_ n = true) : 0 ≤ who ∧ 0 ≤ at_ ∧ at_ < n ∧ (M.beds who).isSome = false := by
  unfold MS.fits at h
  simp only [Bool.and_eq_true, decide_eq_true_eq, Bool.not_eq_true'] at h
  exact ⟨h.1.1.1, h.1.1.2, h.1.2, h.2⟩
def MS.store (M : MS) (who at_ v : Int) : MS := if M.fits who at_ (M.words.length : Int) = true then { M.note who 1 at_ true with words := M.words.set at_.toNat v } else M
set_option maxRecDepth 100000 in
set_option maxHeartbeats 1000000 in
theorem Store_V (who at_ v : Int) (hwho : (Lit.int .i64 who).wf = true) (W : World) {base : Nat} {own : Nat → Prop} {g bm : Nat} {vw vb vl vo : Value} {M : MS} (h : MemV W base own g bm vw vb vl vo M) (hf : ∀ k, W.heap.size ≤ k → own k) (hlog : M.log.length ≤ 1000000) :
    Calls Try.prog 32 #[.pointer (some ⟨g, 0, none⟩), .int .i64 who, .int .i64 at_, .int .u64 v] W fun e w' => e = .returned (.tuple #[]) ∧ MemTo W w' base own g bm vw vb vl (M.store who at_ v) := by
  obtain ⟨hx0, -, -, -, -, -⟩ := h.cell
  cases hq : M.fits who at_ (M.words.length : Int)
  · have e0 : M.store who at_ v = M := by unfold MS.store; rw [hq]; rfl
    rw [e0]
    obtain ⟨A, c, rfl⟩ := Kd.R_slice h.hw
    have H := Aside0.mk h
    have HW := Aside0.mk hwho
    clear h hf hlog hwho e0
    go_enter Try.func32, Try.ntmps32
    go_wp2_with (first | (go_at_call 86; (with_reducible refine (fits_V who at_ _ HW.out W H.out).mono ?_); rintro e w1 ⟨rfl, rfl⟩))
    ((try simp only [Exit.inBlock, Exit.then]); first | refine bodyPost_ret (results_none rfl _ _ _) rfl ?_ | refine bodyPost_end (results_none rfl _ _ _) rfl ?_)
    exact ⟨rfl, MemTo.of H.out⟩
  · obtain ⟨q0, q1, q2, -⟩ := fits_at hq
    have e0 : M.store who at_ v = { M.note who 1 at_ true with words := M.words.set at_.toNat v } := by unfold MS.store; rw [hq]; rfl
    rw [e0]
    obtain ⟨gw, cw, rfl, -⟩ := Kd.R_form h.hw (by omega)
    have H := Aside0.mk h
    have HW := Aside0.mk hwho
    have HF := Aside0.mk hf
    have HL := Aside0.mk hlog
    clear h hf hlog hwho e0
    go_enter Try.func32, Try.ntmps32
    go_wp2_with (first | (go_at_call 86; (with_reducible refine (fits_V who at_ _ HW.out W H.out).mono ?_); rintro e w1 ⟨rfl, rfl⟩) | (go_at_call 87; (with_reducible refine (note_V who 1 at_ true _ H.out HF.out HL.out).mono ?_); rintro e w1 ⟨rfl, vo1, hm1, hk1, hb1⟩; obtain ⟨hy0, -, -, -, -, -⟩ := hm1.cell; obtain ⟨hc1, hz1⟩ := Kd.R_celln 0 hm1.hw at_ q1 q2; have HM := Aside0.mk hm1; have HK := Aside0.mk hk1; have HB := Aside0.mk hb1; clear hx0 hm1 hk1 hb1))
    ((try simp only [Exit.inBlock, Exit.then]); first | refine bodyPost_ret (results_none rfl _ _ _) rfl ?_ | refine bodyPost_end (results_none rfl _ _ _) rfl ?_)
    have hp := Kd.R_putg HM.out.hw at_ v
    exact ⟨rfl, _, HM.out.put_w hp.1 hp.2, HK.out.setCell (.inl (HM.out.hw.1 gw rfl)) _, HB.out.setCell (Kd.R_base HM.out.hw gw rfl) _⟩
def MS.load (M : MS) (who at_ : Int) : Int := if M.fits who at_ (M.words.length : Int) = true then rd M.words at_ else 0
def MS.loadTo (M : MS) (who at_ : Int) : MS := if M.fits who at_ (M.words.length : Int) = true then M.note who 0 at_ true else M
set_option maxRecDepth 100000 in
set_option maxHeartbeats 1000000 in
theorem Load_V (who at_ : Int) (hwho : (Lit.int .i64 who).wf = true) (W : World) {base : Nat} {own : Nat → Prop} {g bm : Nat} {vw vb vl vo : Value} {M : MS} (h : MemV W base own g bm vw vb vl vo M) (hf : ∀ k, W.heap.size ≤ k → own k) (hlog : M.log.length ≤ 1000000) :
    Calls Try.prog 36 #[.pointer (some ⟨g, 0, none⟩), .int .i64 who, .int .i64 at_] W fun e w' => e = .returned (.int .u64 (M.load who at_)) ∧ MemTo W w' base own g bm vw vb vl (M.loadTo who at_) := by
  obtain ⟨hx0, -, -, -, -, -⟩ := h.cell
  cases hq : M.fits who at_ (M.words.length : Int)
  · have e0 : M.loadTo who at_ = M := by unfold MS.loadTo; rw [hq]; rfl
    have e1 : M.load who at_ = 0 := by unfold MS.load; rw [hq]; rfl
    rw [e0, e1]
    obtain ⟨A, c, rfl⟩ := Kd.R_slice h.hw
    have H := Aside0.mk h
    have HW := Aside0.mk hwho
    clear h hf hlog hwho e0 e1
    go_enter Try.func36, Try.ntmps36
    go_wp2_with (first | (go_at_call 86; (with_reducible refine (fits_V who at_ _ HW.out W H.out).mono ?_); rintro e w1 ⟨rfl, rfl⟩))
    go_ret
    exact ⟨rfl, MemTo.of H.out⟩
  · obtain ⟨q0, q1, q2, -⟩ := fits_at hq
    have e0 : M.loadTo who at_ = M.note who 0 at_ true := by unfold MS.loadTo; rw [hq]; rfl
    have e1 : M.load who at_ = rd M.words at_ := by unfold MS.load; rw [hq]; rfl
    rw [e0, e1]
    obtain ⟨gw, cw, rfl, -⟩ := Kd.R_form h.hw (by omega)
    have H := Aside0.mk h
    have HW := Aside0.mk hwho
    have HF := Aside0.mk hf
    have HL := Aside0.mk hlog
    clear h hf hlog hwho e0 e1
    go_enter Try.func36, Try.ntmps36
    go_wp2_with (first | (go_at_call 86; (with_reducible refine (fits_V who at_ _ HW.out W H.out).mono ?_); rintro e w1 ⟨rfl, rfl⟩) | (go_at_call 87; (with_reducible refine (note_V who 0 at_ true _ H.out HF.out HL.out).mono ?_); rintro e w1 ⟨rfl, vo1, hm1, hk1, hb1⟩; obtain ⟨hy0, -, -, -, -, -⟩ := hm1.cell; obtain ⟨hc1, -⟩ := Kd.R_celln 0 hm1.hw at_ q1 q2; have HM := Aside0.mk (show MemTo _ _ _ _ _ _ _ _ _ _ from ⟨vo1, hm1, hk1, hb1⟩); clear hx0 hm1 hk1 hb1))
    go_ret
    exact ⟨rfl, HM.out⟩
set_option maxRecDepth 100000
theorem BedIs.put {D : DataW Unit} {f : Int → Option Int} (hm : IsMap D) (h : BedIs D f) (x v : Int) : BedIs (D.put (.int .i64 x) (.lit (.int .i64 v))) (upd f x (some v)) := by
  intro y
  by_cases e : y = x
  · subst e
    refine ⟨by rw [has_put_same (k := .int .i64 y) hm trivial]; simp [upd], fun v' hv z => ?_⟩
    rw [atKey_put_same (k := .int .i64 y) hm trivial]
    simp [upd] at hv
    rw [hv]
  · refine ⟨by rw [has_put_other (keyI_ne e)]; simp [upd, e]; exact (h y).1, fun v' hv z => ?_⟩
    rw [atKey_put_other (keyI_ne e)]
    simp [upd, e] at hv
    exact (h y).2 v' hv z
def outOf (f : Int → Option Int) (V : List Int) : Int → Option Int := fun x => if x ∈ V then none else f x
theorem BedIs.del {D : DataW Unit} {f : Int → Option Int} {V : List Int} (h : BedIs D (outOf f V)) (x : Int) : BedIs (D.del (.int .i64 x)) (outOf f (x :: V)) := by
  intro y
  by_cases e : y = x
  · subst e
    exact ⟨by rw [has_del_same]; simp [outOf], fun v hv => by simp [outOf] at hv⟩
  · have e1 : outOf f (x :: V) y = outOf f V y := by simp [outOf, e]
    rw [e1]
    refine ⟨by rw [has_del_other (keyI_ne e)]; exact (h y).1, fun v hv z => ?_⟩
    rw [atKey_del_other (keyI_ne e)]
    exact (h y).2 v hv z
theorem BedIs.of_at {D : DataW Unit} {f : Int → Option Int} (h : BedIs D f) {x c : Int} (hat : ∀ z, D.atKey (.int .i64 x) z = .lit (.int .i64 c)) : f x = some c := by
  have h1 : Maps.has D (.int .i64 x) = true := has_true_of_atKey hat
  rw [(h x).1] at h1
  obtain ⟨v, hv⟩ := Option.isSome_iff_exists.1 h1
  have h2 := (h x).2 v hv .nil
  rw [hat] at h2
  injection h2 with h2
  injection h2 with _ h2
  rw [hv, h2]
structure Waking (f : Int → Option Int) (at_ : Int) (D : DataW Unit) (left : Lit → Bool) (V : List Int) : Prop where
  bed : BedIs D (outOf f V)
  nd : V.Nodup
  of : ∀ x ∈ V, f x = some at_
  to_ : ∀ x, outOf f V x = some at_ → left (.int .i64 x) = true
theorem Waking.start {f : Int → Option Int} {at_ : Int} {D : DataW Unit} (h : BedIs D f) : Waking f at_ D (Maps.has D) [] := by
  have e : outOf f [] = f := funext fun x => by simp [outOf]
  refine ⟨by rw [e]; exact h, List.nodup_nil, fun x hx => (List.not_mem_nil hx).elim, fun x hx => ?_⟩
  rw [e] at hx
  rw [(h x).1, hx]; rfl
theorem Waking.all {f : Int → Option Int} {at_ : Int} {D : DataW Unit} {left : Lit → Bool} {V : List Int} (h : Waking f at_ D left V) (hl : ∀ k, left k = false) : outOf f V = (fun x => if f x = some at_ then none else f x) ∧ ∀ x, x ∈ V ↔ f x = some at_ := by
  have key : ∀ x, x ∈ V ↔ f x = some at_ := fun x => ⟨h.of x, fun hx => by
    by_cases hv : x ∈ V
    · exact hv
    · have := h.to_ x (by unfold outOf; rw [if_neg hv]; exact hx)
      rw [hl] at this; cases this⟩
  exact ⟨funext fun x => by unfold outOf; simp only [key], key⟩
theorem Waking.skip {f : Int → Option Int} {at_ x c : Int} {D : DataW Unit} {left : Lit → Bool} {V : List Int} (h : Waking f at_ D left V) (hat : ∀ z, D.atKey (.int .i64 x) z = .lit (.int .i64 c)) (hc : c ≠ at_) : Waking f at_ D (fun z => left z && !z.sameKey (.int .i64 x)) V := by
  refine ⟨h.bed, h.nd, h.of, fun y hy => ?_⟩
  have hne : y ≠ x := fun e => by subst e; rw [h.bed.of_at hat] at hy; exact hc (Option.some.inj hy)
  show (left (.int .i64 y) && !(Lit.int .i64 y).sameKey (.int .i64 x)) = true
  rw [h.to_ y hy, sameKey_ne (keyI_ne hne)]; rfl
theorem Waking.hit {f : Int → Option Int} {at_ x : Int} {D : DataW Unit} {left : Lit → Bool} {V : List Int} (h : Waking f at_ D left V) (hat : ∀ z, D.atKey (.int .i64 x) z = .lit (.int .i64 at_)) : Waking f at_ (D.del (.int .i64 x)) (fun z => (left z && !z.sameKey (.int .i64 x)) && !z.sameKey (.int .i64 x)) (x :: V) := by
  have hx := h.bed.of_at hat
  have hxV : x ∉ V := fun hv => by unfold outOf at hx; rw [if_pos hv] at hx; cases hx
  refine ⟨h.bed.del x, List.nodup_cons.2 ⟨hxV, h.nd⟩, fun y hy => ?_, fun y hy => ?_⟩
  · rcases List.mem_cons.1 hy with rfl | hy
    · unfold outOf at hx; rw [if_neg hxV] at hx; exact hx
    · exact h.of y hy
  · have hne : y ≠ x := fun e => by subst e; simp [outOf] at hy
    have hy2 : outOf f V y = some at_ := by simpa [outOf, hne] using hy
    show ((left (.int .i64 y) && !(Lit.int .i64 y).sameKey (.int .i64 x)) && !(Lit.int .i64 y).sameKey (.int .i64 x)) = true
    rw [h.to_ y hy2, sameKey_ne (keyI_ne hne)]; rfl
/-! ### bits_Mul64: function 121 -/
def bits_Mul64.f (a0 : Int) (a1 : Int) : Option (Int × Int) := some (IntKind.u64.wrap ((IntKind.u64.wrap ((IntKind.u64.wrap ((a0 / 4294967296) * (a1 / 4294967296))) + ((IntKind.u64.wrap ((IntKind.u64.wrap ((a0 / 4294967296) * (Go.bits .and .u64 a1 4294967295))) + ((IntKind.u64.wrap ((Go.bits .and .u64 a0 4294967295) * (Go.bits .and .u64 a1 4294967295))) / 4294967296))) / 4294967296))) + ((IntKind.u64.wrap ((Go.bits .and .u64 (IntKind.u64.wrap ((IntKind.u64.wrap ((a0 / 4294967296) * (Go.bits .and .u64 a1 4294967295))) + ((IntKind.u64.wrap ((Go.bits .and .u64 a0 4294967295) * (Go.bits .and .u64 a1 4294967295))) / 4294967296))) 4294967295) + (IntKind.u64.wrap ((Go.bits .and .u64 a0 4294967295) * (a1 / 4294967296))))) / 4294967296)), IntKind.u64.wrap (a0 * a1))
set_option maxHeartbeats 8000000 in
set_option maxRecDepth 100000 in
theorem bits_Mul64.calls (a0 : Int) (a1 : Int) (r1 : Int) (r2 : Int) (w : World) (h : bits_Mul64.f a0 a1 = some (r1, r2)) :
    Calls Try.prog 121 #[.int .u64 a0, .int .u64 a1] w fun e w' => e = .returned (.tuple #[.int .u64 r1, .int .u64 r2]) ∧ Drawn0 w w' := by
  have H : (some (IntKind.u64.wrap ((IntKind.u64.wrap ((IntKind.u64.wrap ((a0 / 4294967296) * (a1 / 4294967296))) + ((IntKind.u64.wrap ((IntKind.u64.wrap ((a0 / 4294967296) * (Go.bits .and .u64 a1 4294967295))) + ((IntKind.u64.wrap ((Go.bits .and .u64 a0 4294967295) * (Go.bits .and .u64 a1 4294967295))) / 4294967296))) / 4294967296))) + ((IntKind.u64.wrap ((Go.bits .and .u64 (IntKind.u64.wrap ((IntKind.u64.wrap ((a0 / 4294967296) * (Go.bits .and .u64 a1 4294967295))) + ((IntKind.u64.wrap ((Go.bits .and .u64 a0 4294967295) * (Go.bits .and .u64 a1 4294967295))) / 4294967296))) 4294967295) + (IntKind.u64.wrap ((Go.bits .and .u64 a0 4294967295) * (a1 / 4294967296))))) / 4294967296)), IntKind.u64.wrap (a0 * a1))) = some (r1, r2) := h
  clear h
  simp only [Option.some.injEq, Prod.mk.injEq] at H
  obtain ⟨rfl, rfl⟩ := H
  go_enter Try.func121, Try.ntmps121
  go_wp2
  go_ret2
  exact ⟨by first | rfl | (simp; done) | (simp [*]; done), by repeat (first | exact Drawn0.refl _ | apply Drawn0.step)⟩
/-! ### bits_Mul: function 108 -/
def bits_Mul.f (a0 : Int) (a1 : Int) : Option (Int × Int) := (bits_Mul64.f a0 a1).bind fun bt233 => (some (bt233.1, bt233.2))
set_option maxHeartbeats 8000000 in
set_option maxRecDepth 100000 in
theorem bits_Mul.calls (a0 : Int) (a1 : Int) (r1 : Int) (r2 : Int) (w : World) (h : bits_Mul.f a0 a1 = some (r1, r2)) :
    Calls Try.prog 108 #[.int .u64 a0, .int .u64 a1] w fun e w' => e = .returned (.tuple #[.int .u64 r1, .int .u64 r2]) ∧ Drawn0 w w' := by
  have H : ((bits_Mul64.f a0 a1).bind fun bt233 => (some (bt233.1, bt233.2))) = some (r1, r2) := h
  clear h
  replace H := Option.bind_eq_some_iff.mp H
  obtain ⟨⟨t233, t234⟩, A30, H⟩ := H
  replace H : (some (t233, t234)) = some (r1, r2) := H
  have A3 := Aside0.mk A30
  clear A30
  simp only [Option.some.injEq, Prod.mk.injEq] at H
  obtain ⟨rfl, rfl⟩ := H
  go_enter Try.func108, Try.ntmps108
  go_wp2_with (first | ((with_reducible refine gate_callee (f := 121) rfl ?_); refine goesL_ (some 25) rfl rfl Try.func121 (by kernel_rfl) rfl #[.int .u64 a0, .int .u64 a1] rfl (by (try simp only [List.map_toArray, List.map_cons, List.map_nil]); first | done | rfl | (simp only [List.length_drop, List.length_take]; rfl)) ?_; (with_reducible refine (bits_Mul64.calls a0 a1 t233 t234 _ A3.out).mono ?_); rintro e w' ⟨rfl, ⟨nd, rfl⟩⟩; refine ⟨_, rfl, ?_⟩))
  go_ret2
  exact ⟨by first | rfl | (simp; done) | (simp [*]; done), by repeat (first | exact Drawn0.refl _ | apply Drawn0.step)⟩
def slices_Repeat.f (l0 : List Int) (a1 : Int) : Option (List Int) := if l0.length = 1 ∧ 0 ≤ a1 ∧ a1 ≤ 1000000 then some (List.replicate a1.toNat (rd l0 0)) else none
theorem wraps63 (n : Int) (h₀ : 0 ≤ n) (h₁ : n < 2 ^ 63) : IntKind.u64.wrap n = n := by rw [IntKind.wrap_u64]; omega
theorem mul_one (n : Int) (h0 : 0 ≤ n) (h1 : n ≤ 1000000) : bits_Mul.f 1 n = some (0, n) := by
  have d : n / 4294967296 = 0 := by omega
  have e : Go.bits .and .u64 n 4294967295 = n := by
    have h := bits_mask .u64 63 (by decide) wraps63 32 (by decide) n h0 (by omega)
    have e2 : ((2 : Int) ^ 32) = 4294967296 := by decide
    rw [e2] at h
    rw [show (4294967295 : Int) = 4294967296 - 1 by omega, h]
    omega
  have e1 : Go.bits .and .u64 1 4294967295 = 1 := by decide
  have e0 : Go.bits .and .u64 0 4294967295 = 0 := by decide
  have w : IntKind.u64.wrap n = n := wraps63 n h0 (by omega)
  have w0 : IntKind.u64.wrap 0 = 0 := by decide
  unfold bits_Mul.f bits_Mul64.f
  rw [d, e, e1]
  simp only [show (1 : Int) / 4294967296 = 0 by decide, Int.zero_mul, Int.mul_zero, Int.one_mul, w0, w, d, Int.zero_add, Int.add_zero, Option.bind_some, show (0 : Int) / 4294967296 = 0 by decide, e0]
def rowc (x : Int) (c n : Nat) (rest : List Value) : List Value := List.replicate c (.int .i64 x) ++ (List.replicate (n - c) (.int .i64 0) ++ rest)
theorem rowc_len (x : Int) {c n : Nat} (rest : List Value) (h : c ≤ n) : (rowc x c n rest).length = n + rest.length := by simp [rowc]; omega
theorem rowc_splice (x : Int) {c n m : Nat} (rest : List Value) (h : c + m ≤ n) : splice (rowc x c n rest) c (List.replicate m (.int .i64 x)) = rowc x (c + m) n rest := by
  unfold splice rowc
  rw [List.take_append_of_le_length (by simp), List.take_of_length_le (by simp)]
  have : List.drop (c + (List.replicate m (Value.int .i64 x)).length) (List.replicate c (Value.int .i64 x) ++ (List.replicate (n - c) (Value.int .i64 0) ++ rest)) = List.replicate (n - (c + m)) (Value.int .i64 0) ++ rest := by
    rw [List.drop_append, List.drop_of_length_le (by simp), List.nil_append, List.length_replicate, List.length_replicate, Nat.add_sub_cancel_left, List.drop_append_of_le_length (by simp; omega), List.drop_replicate, Nat.sub_sub]
  rw [this, ← List.append_assoc, List.replicate_append_replicate]
theorem made_row {w : World} {base : Nat} {ok : Nat → Prop} {v : Value} {m : Nat} (h : Kd.R (Kd.int .i64) 3 w base ok v (List.replicate ((m : Int)).toNat 0)) : (v = .slice none 0 0 ∧ m = 0) ∨ ∃ g cap rest, v = .slice (some ⟨g, 0, none⟩) m cap ∧ base ≤ g ∧ w.heap[g]? = some (.cells (rowc 0 0 m rest).toArray 3 (0, 0)) ∧ m ≤ cap ∧ cap ≤ maxLen ∧ m + rest.length = cap := by
  have ho := Kd.own_of_R h
  rw [Int.toNat_natCast, List.length_replicate] at ho
  obtain ⟨_, h1 | ⟨g, cap, cur, h1, h2, h3, h4, h5, h6, h7⟩⟩ := ho
  · exact .inl h1
  · refine .inr ⟨g, cap, cur.toList.drop m, h1, h2, ?_, h4, h5, by simp; omega⟩
    have e : rowc 0 0 m (cur.toList.drop m) = cur.toList := by
      unfold rowc
      rw [Nat.mul_one] at h7
      have : List.take m cur.toList = List.replicate m (Value.int .i64 0) := by rw [h7]; simp [encs]
      rw [Nat.sub_zero, ← this, List.replicate_zero, List.nil_append, List.take_append_drop]
    rw [e]; exact h3
theorem row_made {w : World} {base : Nat} {m g cap : Nat} {x : Int} {rest : List Value} (h2 : base ≤ g) (h3 : w.heap[g]? = some (.cells (rowc x m m rest).toArray 3 (0, 0))) (h4 : m ≤ cap) (h5 : cap ≤ maxLen) (h6 : m + rest.length = cap) : Kd.R (Kd.int .i64) 3 w base (fun _ => True) (.slice (some ⟨g, 0, none⟩) m cap) (List.replicate m x) := by
  refine Kd.R_of_own ⟨by simp [encs], .inr ⟨g, cap, _, by rw [List.length_replicate], h2, h3, by rw [List.length_replicate]; exact h4, h5, ?_, ?_⟩⟩ (fun _ _ => trivial)
  · simp [rowc]; omega
  · simp [rowc, encs]
theorem made_pos {w : World} {base : Nat} {ok : Nat → Prop} {v : Value} {m : Nat} (x : Int) (hm : 0 < m) (h : Kd.R (Kd.int .i64) 3 w base ok v (List.replicate ((m : Int)).toNat 0)) : ∃ g cap rest, v = .slice (some ⟨g, 0, none⟩) m cap ∧ base ≤ g ∧ Aside0 (w.heap[g]? = some (.cells (rowc x 0 m rest).toArray 3 (0, 0))) ∧ m ≤ cap ∧ cap ≤ maxLen ∧ m + rest.length = cap := by
  rcases made_row h with h | ⟨g, cap, rest, h1, h2, h3, h4⟩
  · omega
  · exact ⟨g, cap, rest, h1, h2, ⟨h3⟩, h4⟩
theorem made_zero {w : World} {base : Nat} {ok : Nat → Prop} {v : Value} {m : Nat} (h : Kd.R (Kd.int .i64) 3 w base ok v (List.replicate ((m : Int)).toNat 0)) : ∃ p cap, v = .slice p m cap := by
  rcases made_row h with h | ⟨g, cap, rest, h1, _⟩
  · exact ⟨none, 0, by rw [h.1, h.2]⟩
  · exact ⟨_, _, h1⟩
set_option maxHeartbeats 1000000 in
set_option maxRecDepth 100000 in
theorem slices_Repeat.calls (A0 : Option Addr) (c0 : Nat) (l0 : List Int) (a1 : Int) (r : List Int) (w : World) (hr0 : Kd.C (Kd.int .i64) w A0 l0.length l0) (hc0 : l0.length ≤ c0) (h : slices_Repeat.f l0 a1 = some r) :
    Calls Try.prog 85 #[.slice A0 l0.length c0, .int .i64 a1] w fun e w' => ∃ v0_ : Value, e = .returned v0_ ∧ Kd.R (Kd.int .i64) 3 w' w.heap.size (fun _ => True) v0_ r ∧ Below w.heap.size w w' := by
  unfold slices_Repeat.f at h
  by_cases c : l0.length = 1 ∧ 0 ≤ a1 ∧ a1 ≤ 1000000
  · rw [if_pos c] at h
    obtain rfl := Option.some.inj h
    obtain ⟨x, rfl⟩ := List.length_eq_one_iff.1 c.1
    obtain ⟨_, h0, h1⟩ := c
    clear h
    obtain ⟨m, rfl⟩ := Int.eq_ofNat_of_zero_le h0
    have HM := Aside0.mk (mul_one m h0 h1)
    have hneg := decide_eq_false (show ¬ (m : Int) < 0 by omega)
    have hbig := decide_eq_false (show ¬ (9223372036854775807 : Int) < (m : Int) by omega)
    by_cases hm : 0 < m
    · obtain ⟨ad, rfl, hx⟩ := Kd.at_int hr0 0 (by omega) (by simp)
      have K1 := Aside0.mk (show (List.replicate 1 (Value.int .i64 x)).length = Nat.min 1 m by rw [List.length_replicate]; show 1 = min 1 m; omega)
      have K2 := Aside0.mk (fun (c k : Nat) (rest : List Value) (hk : c + k ≤ m) => (by rw [rowc_len _ _ (by omega), List.length_replicate]; omega : c + (List.replicate k (Value.int .i64 x)).length ≤ (rowc x c m rest).length))
      have K3 := Aside0.mk (fun (n : Nat) => (fun v hv => by rw [List.eq_of_mem_replicate hv]; rfl : ∀ v ∈ List.replicate n (Value.int .i64 x), v.oneCell' = true))
      have HR := Aside0.mk hr0
      clear hr0 hc0 hx
      go_enter Try.func85, Try.ntmps85
      go_wp2_with (first | (go_at_call 108; (with_reducible refine (bits_Mul.calls 1 m 0 m _ HM.out).mono ?_); rintro e w' ⟨rfl, ⟨nd, rfl⟩⟩) | ((with_reducible refine gate_dst (N := 30) rfl ?_); refine Kd.R_make (Kd.int .i64) (w0 := w) w.heap.size 3 rfl (N := 30) rfl 25 _ _ rfl (m : Int) rfl rfl Try.underlying25 (.int .i64 0) 8 info3 rfl (by decide) (by omega) 0 (ok := fun _ => True) (okp := fun _ => True) rfl (fun _ hk => hk) trivial h0 (by omega) ?hB ?hS ?_; (case hB => repeat (first | exact Below.refl _ _ | (with_reducible first | apply below_alloc | apply pw_below_drewN | apply below_drew1))); (case hS => exact Nat.le_refl _); intro v w2 ho hb hg hn; clear hg hn; obtain ⟨g, cap, rest, rfl, hbg, h3, h4, h5, h6⟩ := made_pos x hm ho; have HB := Aside0.mk hb; clear ho hb) | ((with_reducible refine gate_builtin (b := .copy) (xs := #[.tmp 31, .tmp 32]) rfl ?_); refine wpList_copy_splice rfl (.tmp 31) (.tmp 32) 25 25 rfl 3 Try.underlying25 (by kernel_rfl) _ _ _ _ _ _ rfl rfl g 0 (rowc x 0 m rest) 3 h3.out (List.replicate 1 (.int .i64 x)) K1.out ?hp (K2.out 0 1 rest (by omega)) (K3.out 1) w.heap.size w HB.out hbg ?_; (case hp => (intro _; refine ⟨rfl, _, rfl, ?_⟩; intro j v hj; obtain ⟨ad', e1, e2⟩ := Kd.at_int (Kd.C_below HR.out HB.out) 0 (by omega) (by simp); cases e1; cases j with | zero => (cases hj; exact e2) | succ j => simp at hj)); intro w3 hg3 hb3; have H3 := Aside0.mk hg3; have HB3 := Aside0.mk hb3; clear hg3 hb3))
      have H4 : Aside0 (w3.heap[g]? = some (.cells (rowc x 1 m rest).toArray 3 (0, 0))) := ⟨by have := H3.out.out; rwa [rowc_splice x rest (by omega), Nat.zero_add] at this⟩
      clear H3 HB h3
      go_loopw [8] (fun v8 wr => ∃ c : Nat, v8 = .int .i64 (c : Int) ∧ Aside0 (1 ≤ c ∧ c ≤ m ∧ wr.heap[g]? = some (.cells (rowc x c m rest).toArray 3 (0, 0)) ∧ Below w.heap.size w wr)) (fun v8 _ => ((m : Int) - intOf v8).toNat)
      case atStart => exact ⟨1, rfl, ⟨by omega, by omega, H4.out, HB3.out⟩⟩
      case round =>
        obtain ⟨c, rfl, HI⟩ := hrel
        have c0 := HI.out.1
        have c1 := HI.out.2.1
        by_cases hlt : c < m
        · have hltb := decide_eq_true (show (c : Int) < (m : Int) by omega)
          have q0 : (0 : Int) ≤ (c : Int) := by omega
          have q1 : (c : Int) ≤ (m : Int) := by omega
          have q2 : (c : Int) ≤ (cap : Int) := by omega
          have q3 : c ≤ m := c1
          have q4 : c ≤ cap := by omega
          have q5 : ¬ cap = c := by omega
          have hcell : Aside0 (∀ j, j < c → wr.cell? ⟨g, j, none⟩ = some (.int .i64 x)) := ⟨fun j hj => by
            have h3 := HI.out.2.2.1
            simp only [World.cell?, h3]
            simp only [rowc]
            simp
            rw [List.getElem?_append_left (by simpa using hj), List.getElem?_replicate, if_pos hj]⟩
          go_wp2_with fail
          go_region_law (go_loud (refine step_copy_splice rfl (.tmp 41) (.tmp 44) 25 25 rfl 3 Try.underlying25 (by kernel_rfl) (some ⟨g, c, none⟩) (some ⟨g, 0, none⟩) (m - c) (cap - c) c cap (by simp [Act.eval, Act.put]) (by simp [Act.eval, Act.put]) g c (rowc x c m rest) 3 HI.out.2.2.1 (List.replicate (Nat.min c (m - c)) (.int .i64 x)) (by rw [List.length_replicate]) ?hp (K2.out c _ rest (by have : Nat.min c (m - c) ≤ m - c := Nat.min_le_right _ _; omega)) (K3.out _) w.heap.size w (below_step HI.out.2.2.2 (Drawn0.below ⟨⟨_, rfl⟩⟩)) hbg ?_); (case hp => go_loud (exact fun _ => ⟨rfl, _, rfl, fun j v hj => by
            obtain ⟨hj1, hj2⟩ := List.getElem?_eq_some_iff.1 hj
            rw [List.getElem_replicate] at hj2
            subst hj2
            rw [List.length_replicate] at hj1
            have hk : Nat.min c (m - c) ≤ c := Nat.min_le_left _ _
            have := hcell.out j (by omega)
            rw [Addr.add_lit, Nat.zero_add]
            exact this⟩)); intro w4 hg4 hb4; have H5 := Aside0.mk hg4; have HB5 := Aside0.mk hb4; clear hg4 hb4)
          all_goals
            have hk : Nat.min c (m - c) = min c (m - c) := rfl
            generalize Nat.min c (m - c) = k at hk H5 HB5
            have hk1 : c + k ≤ m := by omega
            have hk2 : 1 ≤ k := by omega
            have H6 : Aside0 (w4.heap[g]? = some (.cells (rowc x (c + k) m rest).toArray 3 (0, 0))) := ⟨by have := H5.out.out; rwa [rowc_splice x rest hk1] at this⟩
            clear H5
            have hwr : IntKind.i64.wrap ((c : Int) + (k : Int)) = ((c + k : Nat) : Int) := by rw [IntKind.wrap_i64]; omega
            dsimp only [Act.put, Option.elim, List.getElem_toArray, List.getElem_cons_succ, List.getElem_cons_zero]
            simp only [List.setIfInBounds_toArray, List.set_cons_zero, List.set_cons_succ, hwr]
            go_wp2
            go_roundw
            case rel => exact ⟨c + k, rfl, ⟨by omega, hk1, H6.out, HB5.out⟩⟩
            case measure => simp [intOf]; omega
        · obtain rfl : c = m := by omega
          have hltb := decide_eq_false (show ¬ (c : Int) < (c : Int) by omega)
          go_wp2
          go_ret
          exact ⟨_, rfl, row_made hbg HI.out.2.2.1 h4 h5 h6, HI.out.2.2.2⟩
    · have hm0 : Nat.min 1 m = 0 := by show min 1 m = 0; omega
      clear hr0 hc0
      go_enter Try.func85, Try.ntmps85
      go_wp2_with (first | (go_at_call 108; (with_reducible refine (bits_Mul.calls 1 m 0 m _ HM.out).mono ?_); rintro e w' ⟨rfl, ⟨nd, rfl⟩⟩) | ((with_reducible refine gate_dst (N := 30) rfl ?_); refine Kd.R_make (Kd.int .i64) (w0 := w) w.heap.size 3 rfl (N := 30) rfl 25 _ _ rfl (m : Int) rfl rfl Try.underlying25 (.int .i64 0) 8 info3 rfl (by decide) (by omega) 0 (ok := fun _ => True) (okp := fun _ => True) rfl (fun _ hk => hk) trivial h0 (by omega) ?hB ?hS ?_; (case hB => repeat (first | exact Below.refl _ _ | (with_reducible first | apply below_alloc | apply pw_below_drewN | apply below_drew1))); (case hS => exact Nat.le_refl _); intro v w2 ho hb hg hn; clear hg hn; obtain ⟨p, cap, rfl⟩ := made_zero ho; have HO := Aside0.mk ho; have HB := Aside0.mk hb; clear ho hb) | ((with_reducible refine gate_builtin (b := .copy) (xs := #[.tmp 31, .tmp 32]) rfl ?_); refine wpList_copy_nothing rfl (.tmp 31) (.tmp 32) 25 25 rfl 3 Try.underlying25 (by kernel_rfl) _ _ _ _ _ _ rfl rfl hm0 ?_))
      go_loopw [8] (fun v8 wr => v8 = .int .i64 0 ∧ wr = w2) (fun v8 _ => 0)
      case atStart => exact ⟨rfl, rfl⟩
      case round =>
        obtain ⟨rfl, rfl⟩ := hrel
        have hltb := decide_eq_false (show ¬ (0 : Int) < (m : Int) by omega)
        go_wp2
        go_ret
        refine ⟨_, rfl, ?_, HB.out⟩
        have := HO.out
        obtain rfl : m = 0 := by omega
        exact this
  · rw [if_neg c] at h; cases h
def slices_CloneB.f (l0 : List S143) : Option (List S143) := if l0.length < 5864062014805 then some l0 else none
set_option maxHeartbeats 400000 in
theorem slices_CloneB.calls (A0 : Option Addr) (c0 : Nat) (l0 : List S143) (r : List S143) (w : World) (hr0 : Kd.C k143 w A0 l0.length l0) (hc0 : l0.length ≤ c0) (h : slices_CloneB.f l0 = some r) :
    Calls Try.prog 89 #[.slice A0 l0.length c0] w fun e w' => ∃ v0_ : Value, e = .returned v0_ ∧ Kd.R k143 143 w' w.heap.size (fun _ => True) v0_ r ∧ Below w.heap.size w w' := by
  unfold slices_CloneB.f at h
  by_cases hlim : l0.length < 5864062014805
  · rw [if_pos hlim] at h
    obtain rfl := Option.some.inj h
    have LM := Aside0.mk hlim
    clear hlim h
    have HR := Aside0.mk hr0
    clear hr0 hc0
    cases A0 with
    | none =>
      obtain rfl : l0 = [] := by
        have h1 := HR.out.2.2
        cases l0 with
        | nil => rfl
        | cons x xs =>
          obtain ⟨ad, h2, _⟩ := h1 (by simp)
          cases h2
      have hq := fun W : World => Go.Lib.run_eql_slice_nil_nil (P := Try.prog) W (t := 57) 0 c0 Try.underlying57
      go_enter Try.func89, Try.ntmps89
      go_wp2
      go_ret
      exact ⟨_, rfl, Kd.R_nil _ _ _ _ _, Below.refl _ _⟩
    | some ad =>
      have hq := fun W : World => Go.Lib.run_eql_slice_some_nil (P := Try.prog) W (t := 57) ad l0.length c0 Try.underlying57
      go_enter Try.func89, Try.ntmps89
      go_wp2_with (first | ((with_reducible refine gate_dst (N := 5) rfl ?_); refine Kd.R_lit k143 _ 143 ?hg (N := 5) ?hd (xs := ([] : List S143)) (inner := []) (ok := fun _ => True) (okp := fun _ => True) ?hr ?hp (fun _ hk => hk) trivial (Below.refl _ _) (Nat.le_refl _) (by simp) ?_; (case hd => rfl); (case hg => rfl); (case hr => first | (go_simp; done) | (go_simp; rfl)); (case hp => exact (Reps.none _ _)); intro v1 w1 ho1 hb1 hg_ hnew_; clear hg_ hnew_; have HB1 := Aside0.mk hb1; have HO1 := Aside0.mk ho1; clear hb1 ho1) | ((with_reducible refine gate_builtin (b := .append) (xs := #[.tmp 5, .tmp 6]) rfl ?_); at_builtin; refine Kd.R_append_rows k143 (w0 := w) w.heap.size rfl (.tmp 5) (.tmp 6) 57 143 (.agg #[(.int .i64 0), (.int .u64 0), (.int .i64 0)]) 24 rfl Try.underlying57 info143 rfl (by decide) (by omega) v1 [] l0 _ _ _ (fun _ => True) (fun _ => False) rfl rfl ?aO ?aR (fun _ _ h => h) (fun _ h => h.elim) ?aF ?aB ?aS ?aL ?_; (case aR => exact Kd.C_below HR.out HB1.out); (case aB => exact HB1.out); (case aF => exact (fun _ _ => trivial)); (case aO => exact HO1.out); (case aS => exact HB1.out.size); (case aL => have := LM.out; simp only [List.length_nil]; omega); intro v2 w2 ho hb hg hat; have HB2 := Aside0.mk hb; have HO2 := Aside0.mk ho; clear ho hb hg hat))
      go_ret
      exact ⟨_, rfl, by have := HO2.out; rwa [List.nil_append] at this, HB2.out⟩
  · rw [if_neg hlim] at h
    cases h
def slices_CloneE.f (l0 : List S128) : Option (List S128) := if l0.length < 4398046511104 then some l0 else none
set_option maxHeartbeats 400000 in
theorem slices_CloneE.calls (A0 : Option Addr) (c0 : Nat) (l0 : List S128) (r : List S128) (w : World) (hr0 : Kd.C k128 w A0 l0.length l0) (hc0 : l0.length ≤ c0) (h : slices_CloneE.f l0 = some r) :
    Calls Try.prog 90 #[.slice A0 l0.length c0] w fun e w' => ∃ v0_ : Value, e = .returned v0_ ∧ Kd.R k128 128 w' w.heap.size (fun _ => True) v0_ r ∧ Below w.heap.size w w' := by
  unfold slices_CloneE.f at h
  by_cases hlim : l0.length < 4398046511104
  · rw [if_pos hlim] at h
    obtain rfl := Option.some.inj h
    have LM := Aside0.mk hlim
    clear hlim h
    have HR := Aside0.mk hr0
    clear hr0 hc0
    cases A0 with
    | none =>
      obtain rfl : l0 = [] := by
        have h1 := HR.out.2.2
        cases l0 with
        | nil => rfl
        | cons x xs =>
          obtain ⟨ad, h2, _⟩ := h1 (by simp)
          cases h2
      have hq := fun W : World => Go.Lib.run_eql_slice_nil_nil (P := Try.prog) W (t := 33) 0 c0 Try.underlying33
      go_enter Try.func90, Try.ntmps90
      go_wp2
      go_ret
      exact ⟨_, rfl, Kd.R_nil _ _ _ _ _, Below.refl _ _⟩
    | some ad =>
      have hq := fun W : World => Go.Lib.run_eql_slice_some_nil (P := Try.prog) W (t := 33) ad l0.length c0 Try.underlying33
      go_enter Try.func90, Try.ntmps90
      go_wp2_with (first | ((with_reducible refine gate_dst (N := 5) rfl ?_); refine Kd.R_lit k128 _ 128 ?hg (N := 5) ?hd (xs := ([] : List S128)) (inner := []) (ok := fun _ => True) (okp := fun _ => True) ?hr ?hp (fun _ hk => hk) trivial (Below.refl _ _) (Nat.le_refl _) (by simp) ?_; (case hd => rfl); (case hg => rfl); (case hr => first | (go_simp; done) | (go_simp; rfl)); (case hp => exact (Reps.none _ _)); intro v1 w1 ho1 hb1 hg_ hnew_; clear hg_ hnew_; have HB1 := Aside0.mk hb1; have HO1 := Aside0.mk ho1; clear hb1 ho1) | ((with_reducible refine gate_builtin (b := .append) (xs := #[.tmp 5, .tmp 6]) rfl ?_); at_builtin; refine Kd.R_append_rows k128 (w0 := w) w.heap.size rfl (.tmp 5) (.tmp 6) 33 128 (.agg #[(.int .i64 0), (.int .i64 0), (.int .i64 0), (.bool false)]) 32 rfl Try.underlying33 info128 rfl (by decide) (by omega) v1 [] l0 _ _ _ (fun _ => True) (fun _ => False) rfl rfl ?aO ?aR (fun _ _ h => h) (fun _ h => h.elim) ?aF ?aB ?aS ?aL ?_; (case aR => exact Kd.C_below HR.out HB1.out); (case aB => exact HB1.out); (case aF => exact (fun _ _ => trivial)); (case aO => exact HO1.out); (case aS => exact HB1.out.size); (case aL => have := LM.out; simp only [List.length_nil]; omega); intro v2 w2 ho hb hg hat; have HB2 := Aside0.mk hb; have HO2 := Aside0.mk ho; clear ho hb hg hat))
      go_ret
      exact ⟨_, rfl, by have := HO2.out; rwa [List.nil_append] at this, HB2.out⟩
  · rw [if_neg hlim] at h
    cases h
/-! ### mem_may: function 84 -/
def mem_may.f (a0 : Int) : Option (Bool) := if a0 ≥ 0 then (some (decide (a0 ≤ 65536))) else (some false)
set_option maxHeartbeats 8000000 in
set_option maxRecDepth 100000 in
theorem mem_may.calls (a0 : Int) (r : Bool) (w : World) (h : mem_may.f a0 = some r) :
    Calls Try.prog 84 #[.int .i64 a0] w fun e w' => e = .returned (.bool r) ∧ Drawn0 w w' := by
  have H : (if a0 ≥ 0 then (some (decide (a0 ≤ 65536))) else (some false)) = some r := h
  clear h
  by_cases c2 : a0 ≥ 0
  · rw [if_pos c2] at H
    have c2b0 : decide (0 ≤ a0) = true := decide_eq_true c2
    clear c2
    obtain rfl := Option.some.inj H
    go_enter Try.func84, Try.ntmps84
    go_wp2
    go_ret
    exact ⟨by first | rfl | (simp; done) | (simp [*]; done), by repeat (first | exact Drawn0.refl _ | apply Drawn0.step)⟩
  · rw [if_neg c2] at H
    have c2b0 : decide (0 ≤ a0) = false := decide_eq_false c2
    clear c2
    obtain rfl := Option.some.inj H
    go_enter Try.func84, Try.ntmps84
    go_wp2
    go_ret
    exact ⟨by first | rfl | (simp; done) | (simp [*]; done), by repeat (first | exact Drawn0.refl _ | apply Drawn0.step)⟩
set_option maxRecDepth 100000
theorem may_eq (n : Int) : mem_may.f n = some (decide (0 ≤ n) && decide (n ≤ 65536)) := by
  unfold mem_may.f
  by_cases h : n ≥ 0
  · rw [if_pos h, decide_eq_true (show 0 ≤ n from h)]; rfl
  · rw [if_neg h, decide_eq_false (show ¬ 0 ≤ n from h)]; rfl
def nAct (a b c : Nat) (x1 x3 x4 x6 x7 : Value) : Act := { tmps := #[.int .i64 a, .int .i64 b, .int .i64 c, undef, undef, undef, .pointer none, .int .i64 0, .int .i64 a, .bool true, .bool false, .bool false, .int .i64 b, .bool true, .bool false, .bool false, .bool false, .int .i64 c, .bool true, .bool false, .bool false, .int .i64 a, x1, .int .i64 b, x3, x4, .int .i64 c, x6, x7, undef, undef], defers := [] }
theorem at_of {α : Type} {f : Oper → α} {x : Option Oper} {o : Oper} {v : α} (h : x = some o) (e : x.map f = some v) : f o = v := by rw [h] at e; exact Option.some.inj e
theorem nop1 {o : Oper} (h : (opsOf Try.f30 3)[1]? = some o) : o.dst = some 22 ∧ o.op = .makeSlice 44 (.tmp 21) (.tmp 21) ∧ o.guard = none := ⟨at_of (f := fun o => o.dst) h (by kernel_rfl), at_of (f := fun o => o.op) h (by kernel_rfl), at_of (f := fun o => o.guard) h (by kernel_rfl)⟩
theorem nop3 {o : Oper} (h : (opsOf Try.f30 3)[3]? = some o) : o.dst = some 24 ∧ o.op = .makeSlice 135 (.tmp 23) (.tmp 23) ∧ o.guard = none := ⟨at_of (f := fun o => o.dst) h (by kernel_rfl), at_of (f := fun o => o.op) h (by kernel_rfl), at_of (f := fun o => o.guard) h (by kernel_rfl)⟩
theorem nop4 {o : Oper} (h : (opsOf Try.f30 3)[4]? = some o) : o.dst = some 25 ∧ o.op = .buildSlice 25 1 #[(0, .const (.int .i64 (-1)))] ∧ o.guard = none ∧ o.type = 25 := ⟨at_of (f := fun o => o.dst) h (by kernel_rfl), at_of (f := fun o => o.op) h (by kernel_rfl), at_of (f := fun o => o.guard) h (by kernel_rfl), at_of (f := fun o => o.type) h (by kernel_rfl)⟩
theorem nop6 {o : Oper} (h : (opsOf Try.f30 3)[6]? = some o) : o.dst = some 27 ∧ o.op = .call { callee := .value (.func 85), args := #[.tmp 25, .tmp 26], argTypes := #[25, 3] } ∧ o.guard = none := ⟨at_of (f := fun o => o.dst) h (by kernel_rfl), at_of (f := fun o => o.op) h (by kernel_rfl), at_of (f := fun o => o.guard) h (by kernel_rfl)⟩
theorem nop7 {o : Oper} (h : (opsOf Try.f30 3)[7]? = some o) : o.dst = some 28 ∧ o.op = .makeMap 125 none ∧ o.guard = none := ⟨at_of (f := fun o => o.dst) h (by kernel_rfl), at_of (f := fun o => o.op) h (by kernel_rfl), at_of (f := fun o => o.guard) h (by kernel_rfl)⟩
theorem info57 : (Try.prog.info? 57).map (fun i => (i.zero, i.size, i.bytes)) = some (some (.slice none 0 0), 1, 24) := by kernel_rfl
theorem new_ready : ∀ f1 f3 f4 f6 f7 : Bool, (f6 = true → f4 = true) → ¬ (f1 = true ∧ f3 = true ∧ f6 = true ∧ f7 = true) → Region.ready .any (opsOf Try.f30 3) #[true, f1, true, f3, f4, true, f6, f7, false, false, false, false] = (if f1 then [] else [1]) ++ ((if f3 then [] else [3]) ++ ((if f4 then [] else [4]) ++ ((if f4 && !f6 then [6] else []) ++ (if f7 then [] else [7])))) := by
  intro f1 f3 f4 f6 f7 h1 h2
  cases f1 <;> cases f3 <;> cases f4 <;> cases f6 <;> cases f7 <;> first | (simp at h1; done) | (simp at h2; done) | kernel_rfl
theorem newmem_ne : ∀ f1 f3 f4 f6 f7 : Bool, (f6 = true → f4 = true) → ¬ (f1 = true ∧ f3 = true ∧ f6 = true ∧ f7 = true) → ((if f1 then [] else [1]) ++ ((if f3 then [] else [3]) ++ ((if f4 then [] else [4]) ++ ((if f4 && !f6 then [6] else []) ++ (if f7 then [] else [7])))) : List Nat) ≠ [] := by decide
structure NewI (W w : World) (a b c : Nat) (f1 f3 f4 f6 f7 : Bool) (x1 x3 x4 x6 x7 : Value) : Prop where
  bel : Below W.heap.size W w
  p1 : f1 = true → Kd.R (Kd.int .u64) 29 w W.heap.size (fun _ => True) x1 (List.replicate a 0)
  p3 : f3 = true → Kd.R (Kd.slice 143 k143) 57 w W.heap.size (fun _ => True) x3 (List.replicate b [])
  p4 : f4 = true → Kd.R (Kd.int .i64) 3 w W.heap.size (fun _ => True) x4 [-1]
  p6 : f6 = true → Kd.R (Kd.int .i64) 3 w W.heap.size (fun _ => True) x6 (List.replicate c (-1))
  p7 : f7 = true → ∃ m, x7 = .map (some m) ∧ W.heap.size ≤ m ∧ BedR w m 0 (fun _ => none)
theorem BedR.below {w w' : World} {b n : Nat} {f : Int → Option Int} (h : BedR w b n f) (hb : Below w.heap.size w w') : BedR w' b n f := h.same (hb.block b h.lt)
theorem NewI.below {W w w' : World} {a b c : Nat} {f1 f3 f4 f6 f7 : Bool} {x1 x3 x4 x6 x7 : Value} (h : NewI W w a b c f1 f3 f4 f6 f7 x1 x3 x4 x6 x7) (hb : Below w.heap.size w w') : NewI W w' a b c f1 f3 f4 f6 f7 x1 x3 x4 x6 x7 :=
  ⟨below_step h.bel hb, fun e => Kd.R_below (h.p1 e) hb, fun e => Kd.R_below (h.p3 e) hb, fun e => Kd.R_below (h.p4 e) hb, fun e => Kd.R_below (h.p6 e) hb, fun e => by obtain ⟨m, e1, e2, e3⟩ := h.p7 e; exact ⟨m, e1, e2, e3.below hb⟩⟩
theorem wanted_none {o : Oper} {y : Nat → Option Bool} (h : o.guard = none) : Region.wanted o y = true := by simp [Region.wanted, h]
section
variable {W w : World} {a b c : Nat} {f1 f3 f4 f6 f7 : Bool} {x1 x3 x4 x6 x7 : Value} {Q : Exit → Act → World → Prop} {K : Act → World → Prop}
theorem new1 {o : Oper} (no : (opsOf Try.f30 3)[1]? = some o) (ha : a ≤ 65536) (h : NewI W w a b c f1 f3 f4 f6 f7 x1 x3 x4 x6 x7) (hK : ∀ y w', NewI W w' a b c true f3 f4 f6 f7 y x3 x4 x6 x7 → K (nAct a b c y x3 x4 x6 x7) w') :
    if Region.wanted o (yielded (opsOf Try.f30 3) (nAct a b c x1 x3 x4 x6 x7).tmps) = true then Oper.wp Try.prog o (nAct a b c x1 x3 x4 x6 x7) w K Q else K ((nAct a b c x1 x3 x4 x6 x7).put o.dst undef) w := by
  refine Kd.R_make_step (Kd.int .u64) (w0 := w) w.heap.size 29 (wanted_none (nop1 no).2.2) (nop1 no).1 44 (.tmp 21) (.tmp 21) (nop1 no).2.1 (a : Int) rfl rfl Try.underlying44 (.int .u64 0) 8 info29 rfl (by decide) (by omega) 0 (ok := fun _ => True) (okp := fun _ => True) rfl (fun _ h => h) trivial (by omega) (by omega) (Below.refl _ _) (Nat.le_refl _) ?_
  intro v1 w1 hr hb _ _
  rw [(nop1 no).1]
  have h2 := h.below hb
  rw [Int.toNat_natCast] at hr
  exact hK v1 w1 ⟨h2.bel, fun _ => Kd.R_lower hr (below_size h.bel), h2.p3, h2.p4, h2.p6, h2.p7⟩
theorem new3 {o : Oper} (no : (opsOf Try.f30 3)[3]? = some o) (hb0 : b ≤ 65536) (h : NewI W w a b c f1 f3 f4 f6 f7 x1 x3 x4 x6 x7) (hK : ∀ y w', NewI W w' a b c f1 true f4 f6 f7 x1 y x4 x6 x7 → K (nAct a b c x1 y x4 x6 x7) w') :
    if Region.wanted o (yielded (opsOf Try.f30 3) (nAct a b c x1 x3 x4 x6 x7).tmps) = true then Oper.wp Try.prog o (nAct a b c x1 x3 x4 x6 x7) w K Q else K ((nAct a b c x1 x3 x4 x6 x7).put o.dst undef) w := by
  refine Kd.R_make_step (Kd.slice 143 k143) (w0 := w) w.heap.size 57 (wanted_none (nop3 no).2.2) (nop3 no).1 135 (.tmp 23) (.tmp 23) (nop3 no).2.1 (b : Int) rfl rfl Try.underlying135 (.slice none 0 0) 24 info57 rfl (by decide) (by omega) ([] : List S143) (ok := fun _ => True) (okp := fun _ => True) ⟨_, rfl, Kd.R_nil _ _ _ _ _⟩ (fun _ h => h) trivial (by omega) (by omega) (Below.refl _ _) (Nat.le_refl _) ?_
  intro v1 w1 hr hb _ _
  rw [(nop3 no).1]
  have h2 := h.below hb
  rw [Int.toNat_natCast] at hr
  exact hK v1 w1 ⟨h2.bel, h2.p1, fun _ => Kd.R_lower hr (below_size h.bel), h2.p4, h2.p6, h2.p7⟩
theorem new4 {o : Oper} (no : (opsOf Try.f30 3)[4]? = some o) (h : NewI W w a b c f1 f3 f4 f6 f7 x1 x3 x4 x6 x7) (hK : ∀ y w', NewI W w' a b c f1 f3 true f6 f7 x1 x3 y x6 x7 → K (nAct a b c x1 x3 y x6 x7) w') :
    if Region.wanted o (yielded (opsOf Try.f30 3) (nAct a b c x1 x3 x4 x6 x7).tmps) = true then Oper.wp Try.prog o (nAct a b c x1 x3 x4 x6 x7) w K Q else K ((nAct a b c x1 x3 x4 x6 x7).put o.dst undef) w := by
  have hrun : (execOp (nAct a b c x1 x3 x4 x6 x7).eval o).run Try.prog w = .ok (.value (.slice (some ⟨w.heap.size, 0, none⟩) 1 1)) (w.alloc (.cells #[.int .i64 (-1)] 3)) := by
    unfold execOp
    rw [(nop4 no).2.1, (nop4 no).2.2.2]
    go_simp
    try rfl
  refine Kd.R_lit_step (Kd.int .i64) (w0 := w) w.heap.size 3 (wanted_none (nop4 no).2.2.1) (nop4 no).1 (xs := [(-1 : Int)]) (inner := [.int .i64 (-1)]) (ok := fun _ => True) (okp := fun _ => True) hrun (Kd.reps_scalar (enc := fun x : Int => Value.int .i64 x) [(-1 : Int)]) (fun _ h => h) trivial (Below.refl _ _) (Nat.le_refl _) (by simp) ?_
  intro v1 w1 hr hb _ _
  rw [(nop4 no).1]
  have h2 := h.below hb
  exact hK v1 w1 ⟨h2.bel, h2.p1, h2.p3, fun _ => Kd.R_lower hr (below_size h.bel), h2.p6, h2.p7⟩
theorem new6 {o : Oper} (no : (opsOf Try.f30 3)[6]? = some o) (hc : c ≤ 65536) (h : NewI W w a b c f1 f3 true f6 f7 x1 x3 x4 x6 x7) (hK : ∀ y w', NewI W w' a b c f1 f3 true true f7 x1 x3 x4 y x7 → K (nAct a b c x1 x3 x4 y x7) w') :
    if Region.wanted o (yielded (opsOf Try.f30 3) (nAct a b c x1 x3 x4 x6 x7).tmps) = true then Oper.wp Try.prog o (nAct a b c x1 x3 x4 x6 x7) w K Q else K ((nAct a b c x1 x3 x4 x6 x7).put o.dst undef) w := by
  have h4 := h.p4 rfl
  obtain ⟨A, n, cc, rfl⟩ := R_any h4
  obtain ⟨e1, e2, e3⟩ := Kd.R_reads' h4
  subst e1
  rw [(nop6 no).1]
  refine goes_ Try.func85 (by kernel_rfl) rfl #[.slice A ([-1] : List Int).length cc, .int .i64 c] (wanted_none (nop6 no).2.2) (nop6 no).1 (nop6 no).2.1 (by simp only [List.map_toArray, List.map_cons, List.map_nil]; rfl) ?_
  have hf : slices_Repeat.f [-1] (c : Int) = some (List.replicate c (-1)) := by
    unfold slices_Repeat.f
    rw [if_pos ⟨rfl, by omega, by omega⟩]; rfl
  refine (slices_Repeat.calls A cc [-1] c _ w e3 e2 hf).mono ?_
  rintro e w1 ⟨v1, rfl, hr, hb⟩
  have h2 := h.below hb
  exact ⟨v1, rfl, hK v1 w1 ⟨h2.bel, h2.p1, h2.p3, h2.p4, fun _ => Kd.R_lower hr (below_size h.bel), h2.p7⟩⟩
theorem new7 {o : Oper} (no : (opsOf Try.f30 3)[7]? = some o) (h : NewI W w a b c f1 f3 f4 f6 f7 x1 x3 x4 x6 x7) (hK : ∀ y w', NewI W w' a b c f1 f3 f4 f6 true x1 x3 x4 x6 y → K (nAct a b c x1 x3 x4 x6 y) w') :
    if Region.wanted o (yielded (opsOf Try.f30 3) (nAct a b c x1 x3 x4 x6 x7).tmps) = true then Oper.wp Try.prog o (nAct a b c x1 x3 x4 x6 x7) w K Q else K ((nAct a b c x1 x3 x4 x6 x7).put o.dst undef) w := by
  have hrun : (execOp (nAct a b c x1 x3 x4 x6 x7).eval o).run Try.prog w = .ok (.value (.map (some w.heap.size))) (w.alloc (.map #[] 0)) := by
    unfold execOp
    rw [(nop7 no).2.1]
    simp [run_makeMap, Result.andThen]
  have hb := below_alloc (Below.refl w.heap.size w) (.map #[] 0)
  have h2 := h.below hb
  exact event_step (wanted_none (nop7 no).2.2) hrun (by rw [(nop7 no).1]; exact hK _ _ ⟨h2.bel, h2.p1, h2.p3, h2.p4, h2.p6, fun _ => ⟨_, rfl, below_size h.bel, BedR.made w⟩⟩)
theorem new_all (ha : a ≤ 65536) (hb : b ≤ 65536) (hc : c ≤ 65536) (hE : ∀ x1 x3 x4 x6 x7 w, NewI W w a b c true true true true true x1 x3 x4 x6 x7 → wpAnyLast Try.prog .any (opsOf Try.f30 3) Q (fun _ => True) [] 4 #[true, true, true, true, true, true, true, true, false, false, false, false] (nAct a b c x1 x3 x4 x6 x7) w) :
    ∀ (n : Nat) (f1 f3 f4 f6 f7 : Bool) (x1 x3 x4 x6 x7 : Value) (w : World), (f6 = true → f4 = true) → (if f1 then 0 else 1) + ((if f3 then 0 else 1) + ((if f4 then 0 else 1) + ((if f6 then 0 else 1) + (if f7 then 0 else 1)))) = n → NewI W w a b c f1 f3 f4 f6 f7 x1 x3 x4 x6 x7 →
      wpAnyLast Try.prog .any (opsOf Try.f30 3) Q (fun _ => True) [] (n + 4) #[true, f1, true, f3, f4, true, f6, f7, false, false, false, false] (nAct a b c x1 x3 x4 x6 x7) w := by
  intro n
  induction n with
  | zero =>
    intro f1 f3 f4 f6 f7 x1 x3 x4 x6 x7 w h64 hn hI
    cases f1 <;> cases f3 <;> cases f4 <;> cases f6 <;> cases f7 <;> first | exact hE _ _ _ _ _ _ hI | (simp at hn; done)
  | succ n ih =>
    intro f1 f3 f4 f6 f7 x1 x3 x4 x6 x7 w h64 hn hI
    have hnot : ¬ (f1 = true ∧ f3 = true ∧ f6 = true ∧ f7 = true) := by
      rintro ⟨rfl, rfl, rfl, rfl⟩
      rw [h64 rfl] at hn
      simp at hn
    have hr := new_ready f1 f3 f4 f6 f7 h64 hnot
    show wpAnyLast _ _ _ _ _ _ ((n + 4) + 1) _ _ _
    refine ⟨fun h0 => absurd (hr.symm.trans h0) (newmem_ne f1 f3 f4 f6 f7 h64 hnot), fun i hi => ?_⟩
    · rw [hr] at hi
      have e1 : ∀ i, i < 12 → ∃ o, (opsOf Try.f30 3)[i]? = some o := fun i h => ⟨_, Array.getElem?_eq_getElem (by rw [show (opsOf Try.f30 3).size = 12 by kernel_rfl]; exact h)⟩
      rcases List.mem_append.1 hi with hi | hi
      · cases f1
        · obtain rfl : i = 1 := by simpa using hi
          obtain ⟨o, no⟩ := e1 1 (by omega)
          refine wpOp_step no fun K hK => new1 no ha hI fun y w' h' => hK _ _ ⟨fun _ _ => trivial, ?_⟩
          exact ih true f3 f4 f6 f7 y x3 x4 x6 x7 w' h64 (by simp at hn ⊢; omega) h'
        · simp at hi
      · rcases List.mem_append.1 hi with hi | hi
        · cases f3
          · obtain rfl : i = 3 := by simpa using hi
            obtain ⟨o, no⟩ := e1 3 (by omega)
            refine wpOp_step no fun K hK => new3 no hb hI fun y w' h' => hK _ _ ⟨fun _ _ => trivial, ?_⟩
            exact ih f1 true f4 f6 f7 x1 y x4 x6 x7 w' h64 (by simp at hn ⊢; omega) h'
          · simp at hi
        · rcases List.mem_append.1 hi with hi | hi
          · cases f4
            · obtain rfl : i = 4 := by simpa using hi
              obtain ⟨o, no⟩ := e1 4 (by omega)
              refine wpOp_step no fun K hK => new4 no hI fun y w' h' => hK _ _ ⟨fun _ _ => trivial, ?_⟩
              exact ih f1 f3 true f6 f7 x1 x3 y x6 x7 w' (fun _ => rfl) (by simp at hn ⊢; omega) h'
            · simp at hi
          · rcases List.mem_append.1 hi with hi | hi
            · cases f4
              · simp at hi
              · cases f6
                · obtain rfl : i = 6 := by simpa using hi
                  obtain ⟨o, no⟩ := e1 6 (by omega)
                  refine wpOp_step no fun K hK => new6 no hc hI fun y w' h' => hK _ _ ⟨fun _ _ => trivial, ?_⟩
                  exact ih f1 f3 true true f7 x1 x3 x4 y x7 w' (fun _ => rfl) (by simp at hn ⊢; omega) h'
                · simp at hi
            · cases f7
              · obtain rfl : i = 7 := by simpa using hi
                obtain ⟨o, no⟩ := e1 7 (by omega)
                refine wpOp_step no fun K hK => new7 no hI fun y w' h' => hK _ _ ⟨fun _ _ => trivial, ?_⟩
                exact ih f1 f3 f4 f6 true x1 x3 x4 x6 y w' h64 (by simp at hn ⊢; omega) h'
              · simp at hi
def nActE (a b c : Nat) (x1 x3 x4 x6 x7 t6 t7 x29 x30 : Value) : Act := { tmps := #[.int .i64 a, .int .i64 b, .int .i64 c, undef, undef, undef, t6, t7, .int .i64 a, .bool true, .bool false, .bool false, .int .i64 b, .bool true, .bool false, .bool false, .bool false, .int .i64 c, .bool true, .bool false, .bool false, .int .i64 a, x1, .int .i64 b, x3, x4, .int .i64 c, x6, x7, x29, x30], defers := [] }
theorem nop8 {o : Oper} (h : (opsOf Try.f30 3)[8]? = some o) : o.dst = some 29 ∧ o.op = .build 137 #[(0, .tmp 22), (1, .tmp 24), (2, .tmp 27), (3, .tmp 28), (4, .const (.slice none 0 0))] ∧ o.guard = none ∧ o.type = 137 := ⟨at_of (f := fun o => o.dst) h (by kernel_rfl), at_of (f := fun o => o.op) h (by kernel_rfl), at_of (f := fun o => o.guard) h (by kernel_rfl), at_of (f := fun o => o.type) h (by kernel_rfl)⟩
theorem nop9 {o : Oper} (h : (opsOf Try.f30 3)[9]? = some o) : o.dst = some 30 ∧ o.op = .box 137 (.tmp 29) ∧ o.guard = none ∧ o.type = 46 := ⟨at_of (f := fun o => o.dst) h (by kernel_rfl), at_of (f := fun o => o.op) h (by kernel_rfl), at_of (f := fun o => o.guard) h (by kernel_rfl), at_of (f := fun o => o.type) h (by kernel_rfl)⟩
theorem nop10 {o : Oper} (h : (opsOf Try.f30 3)[10]? = some o) : o.dst = some 6 ∧ o.op = .assign (.tmp 30) ∧ o.guard = none ∧ o.type = 46 := ⟨at_of (f := fun o => o.dst) h (by kernel_rfl), at_of (f := fun o => o.op) h (by kernel_rfl), at_of (f := fun o => o.guard) h (by kernel_rfl), at_of (f := fun o => o.type) h (by kernel_rfl)⟩
theorem nop11 {o : Oper} (h : (opsOf Try.f30 3)[11]? = some o) : o.dst = some 7 ∧ o.op = .assign (.const (.int .i64 0)) ∧ o.guard = none ∧ o.type = 47 := ⟨at_of (f := fun o => o.dst) h (by kernel_rfl), at_of (f := fun o => o.op) h (by kernel_rfl), at_of (f := fun o => o.guard) h (by kernel_rfl), at_of (f := fun o => o.type) h (by kernel_rfl)⟩
theorem new_op (i : Nat) (h : i < 12) : ∃ o, (opsOf Try.f30 3)[i]? = some o := ⟨_, Array.getElem?_eq_getElem (by rw [show (opsOf Try.f30 3).size = 12 by kernel_rfl]; exact h)⟩
theorem new_one {n i : Nat} {l l' : Array Bool} {o : Oper} {act : Act} {v : Value} {w w1 : World} (hr : Region.ready .any (opsOf Try.f30 3) l = [i]) (hl : l.setIfInBounds i true = l') (no : (opsOf Try.f30 3)[i]? = some o) (hg : o.guard = none) (hrun : (execOp act.eval o).run Try.prog w = .ok (.value v) w1) {act' : Act} (ha : act.put o.dst v = act')
    (h : wpAnyLast Try.prog .any (opsOf Try.f30 3) Q (fun _ => True) [] n l' act' w1) : wpAnyLast Try.prog .any (opsOf Try.f30 3) Q (fun _ => True) [] (n + 1) l act w := by
  subst hl
  subst ha
  refine ⟨fun h0 => (by rw [hr] at h0; cases h0), fun j hj => ?_⟩
  rw [hr] at hj
  obtain rfl : j = i := by simpa using hj
  exact wpOp_step no fun K hK => event_step (wanted_none hg) hrun (hK _ _ ⟨fun _ _ => trivial, h⟩)
theorem new_end (hI : NewI W w a b c true true true true true x1 x3 x4 x6 x7) (hQ : ∀ x29 x30 g w', MemR w' W.heap.size (fun k => W.heap.size ≤ k) g ⟨List.replicate a 0, List.replicate b [], List.replicate c (-1), fun _ => none, 0, []⟩ → Below W.heap.size W w' → Q .normal (nActE a b c x1 x3 x4 x6 x7 (.pointer (some ⟨g, 0, none⟩)) (.int .i64 0) x29 x30) w') :
    wpAnyLast Try.prog .any (opsOf Try.f30 3) Q (fun _ => True) [] 4 #[true, true, true, true, true, true, true, true, false, false, false, false] (nAct a b c x1 x3 x4 x6 x7) w := by
  obtain ⟨A1, n1, c1, e1⟩ := R_any (hI.p1 rfl)
  obtain ⟨A3, n3, c3, e3⟩ := R_any (hI.p3 rfl)
  obtain ⟨A6, n6, c6, e6⟩ := R_any (hI.p6 rfl)
  obtain ⟨m, e7, hm1, hm2⟩ := hI.p7 rfl
  subst e1 e3 e6 e7
  obtain ⟨o8, no8⟩ := new_op 8 (by omega)
  obtain ⟨o9, no9⟩ := new_op 9 (by omega)
  obtain ⟨o10, no10⟩ := new_op 10 (by omega)
  obtain ⟨o11, no11⟩ := new_op 11 (by omega)
  refine new_one (i := 8) (l' := #[true, true, true, true, true, true, true, true, true, false, false, false]) (v := .agg #[.slice A1 n1 c1, .slice A3 n3 c3, .slice A6 n6 c6, .map (some m), .slice none 0 0]) (w1 := w) (by kernel_rfl) (by kernel_rfl) no8 (nop8 no8).2.2.1 (by unfold execOp; rw [(nop8 no8).2.1]; simp only [nAct]; go_simp) (act' := nActE a b c (.slice A1 n1 c1) (.slice A3 n3 c3) x4 (.slice A6 n6 c6) (.map (some m)) (.pointer none) (.int .i64 0) (.agg #[.slice A1 n1 c1, .slice A3 n3 c3, .slice A6 n6 c6, .map (some m), .slice none 0 0]) undef) (by rw [(nop8 no8).1]; rfl) ?_
  refine new_one (i := 9) (l' := #[true, true, true, true, true, true, true, true, true, true, false, false]) (v := .pointer (some ⟨w.heap.size, 0, none⟩)) (w1 := w.alloc (.cells #[.slice A1 n1 c1, .slice A3 n3 c3, .slice A6 n6 c6, .map (some m), .slice none 0 0] 137)) (by kernel_rfl) (by kernel_rfl) no9 (nop9 no9).2.2.1 (by unfold execOp; rw [(nop9 no9).2.1]; simp only [nActE]; go_simp) (act' := nActE a b c (.slice A1 n1 c1) (.slice A3 n3 c3) x4 (.slice A6 n6 c6) (.map (some m)) (.pointer none) (.int .i64 0) (.agg #[.slice A1 n1 c1, .slice A3 n3 c3, .slice A6 n6 c6, .map (some m), .slice none 0 0]) (.pointer (some ⟨w.heap.size, 0, none⟩))) (by rw [(nop9 no9).1]; rfl) ?_
  refine new_one (i := 10) (l' := #[true, true, true, true, true, true, true, true, true, true, true, false]) (v := .pointer (some ⟨w.heap.size, 0, none⟩)) (w1 := w.alloc (.cells #[.slice A1 n1 c1, .slice A3 n3 c3, .slice A6 n6 c6, .map (some m), .slice none 0 0] 137)) (by kernel_rfl) (by kernel_rfl) no10 (nop10 no10).2.2.1 (by unfold execOp; rw [(nop10 no10).2.1]; simp only [nActE]; go_simp) (act' := nActE a b c (.slice A1 n1 c1) (.slice A3 n3 c3) x4 (.slice A6 n6 c6) (.map (some m)) (.pointer (some ⟨w.heap.size, 0, none⟩)) (.int .i64 0) (.agg #[.slice A1 n1 c1, .slice A3 n3 c3, .slice A6 n6 c6, .map (some m), .slice none 0 0]) (.pointer (some ⟨w.heap.size, 0, none⟩))) (by rw [(nop10 no10).1]; rfl) ?_
  refine new_one (i := 11) (l' := #[true, true, true, true, true, true, true, true, true, true, true, true]) (v := .int .i64 0) (w1 := w.alloc (.cells #[.slice A1 n1 c1, .slice A3 n3 c3, .slice A6 n6 c6, .map (some m), .slice none 0 0] 137)) (by kernel_rfl) (by kernel_rfl) no11 (nop11 no11).2.2.1 (by unfold execOp; rw [(nop11 no11).2.1]; simp only [nActE]; go_simp) (act' := nActE a b c (.slice A1 n1 c1) (.slice A3 n3 c3) x4 (.slice A6 n6 c6) (.map (some m)) (.pointer (some ⟨w.heap.size, 0, none⟩)) (.int .i64 0) (.agg #[.slice A1 n1 c1, .slice A3 n3 c3, .slice A6 n6 c6, .map (some m), .slice none 0 0]) (.pointer (some ⟨w.heap.size, 0, none⟩))) (by rw [(nop11 no11).1]; rfl) ?_
  have hb := below_alloc (Below.refl w.heap.size w) (.cells #[.slice A1 n1 c1, .slice A3 n3 c3, .slice A6 n6 c6, .map (some m), .slice none 0 0] 137)
  have h2 := hI.below hb
  obtain ⟨m', e7, hm3, hm4⟩ := h2.p7 rfl
  obtain rfl : m = m' := by injection e7 with e7; injection e7
  have hs := hI.bel.size
  refine ⟨by kernel_rfl, hQ _ _ w.heap.size _ ⟨m, _, _, _, _, ⟨blk_new _ _, hs, hs, ?_, ?_, ?_, Kd.R_nil _ _ _ _ _, hm1, hm1, hm4⟩⟩ h2.bel⟩
  · exact Kd.R_mono (Kd.R_bound (h2.p1 rfl)) (fun k hk => hk.2.1)
  · exact Kd.R_mono (Kd.R_bound (h2.p3 rfl)) (fun k hk => hk.2.1)
  · exact Kd.R_mono (Kd.R_bound (h2.p6 rfl)) (fun k hk => hk.2.1)
end
theorem New_ok (a b c : Nat) (ha : a ≤ 65536) (hb : b ≤ 65536) (hc : c ≤ 65536) (W : World) :
    Calls Try.prog 30 #[.int .i64 a, .int .i64 b, .int .i64 c] W fun e w' => ∃ g, e = .returned (.tuple #[.pointer (some ⟨g, 0, none⟩), .int .i64 0]) ∧ MemR w' W.heap.size (fun k => W.heap.size ≤ k) g ⟨List.replicate a 0, List.replicate b [], List.replicate c (-1), fun _ => none, 0, []⟩ ∧ Below W.heap.size W w' := by
  have A0 := Aside0.mk (show mem_may.f a = some true by rw [may_eq, decide_eq_true (show (0 : Int) ≤ a by omega), decide_eq_true (show (a : Int) ≤ 65536 by omega)]; rfl)
  have B0 := Aside0.mk (show mem_may.f b = some true by rw [may_eq, decide_eq_true (show (0 : Int) ≤ b by omega), decide_eq_true (show (b : Int) ≤ 65536 by omega)]; rfl)
  have C0 := Aside0.mk (show mem_may.f c = some true by rw [may_eq, decide_eq_true (show (0 : Int) ≤ c by omega), decide_eq_true (show (c : Int) ≤ 65536 by omega)]; rfl)
  have HA := Aside0.mk (show _ ∧ _ ∧ _ from ⟨ha, hb, hc⟩)
  clear ha hb hc
  go_enter Try.func30, Try.ntmps30
  go_wp2_with (first | (go_at_call 84; (with_reducible refine (mem_may.calls a true _ A0.out).mono ?_); rintro e w1 ⟨rfl, ⟨nd, rfl⟩⟩) | (go_at_call 84; (with_reducible refine (mem_may.calls b true _ B0.out).mono ?_); rintro e w1 ⟨rfl, ⟨nd, rfl⟩⟩) | (go_at_call 84; (with_reducible refine (mem_may.calls c true _ C0.out).mono ?_); rintro e w1 ⟨rfl, ⟨nd, rfl⟩⟩))
  refine start_ (n := 12) (S := fun _ => True) (ds := []) #[false, false, false, false, false, false, false, false, false, false, false, false] (by kernel_rfl) rfl rfl trivial (fun hHeld => ?_)
  refine pure_ (i := 0) (N := some 21) (v := ?_) (a' := ?_) #[true, false, false, false, false, false, false, false, false, false, false, false] rfl rfl (by kernel_rfl) (fun _ _ _ h => h) (Or.inl ⟨by rfl, ?_⟩) ?_ ?_
  rotate_left
  · intro w'
    go_simp
    with_reducible rfl
  rotate_left
  · simp only [Act.put, List.setIfInBounds_toArray, List.set_cons_zero, List.set_cons_succ]
    rfl
  refine pure_ (i := 2) (N := some 23) (v := ?_) (a' := ?_) #[true, false, true, false, false, false, false, false, false, false, false, false] rfl rfl (by kernel_rfl) (fun _ _ _ h => h) (Or.inl ⟨by rfl, ?_⟩) ?_ ?_
  rotate_left
  · intro w'
    go_simp
    with_reducible rfl
  rotate_left
  · simp only [Act.put, List.setIfInBounds_toArray, List.set_cons_zero, List.set_cons_succ]
    rfl
  refine pure_ (i := 5) (N := some 26) (v := ?_) (a' := ?_) #[true, false, true, false, false, true, false, false, false, false, false, false] rfl rfl (by kernel_rfl) (fun _ _ _ h => h) (Or.inl ⟨by rfl, ?_⟩) ?_ ?_
  rotate_left
  · intro w'
    go_simp
    with_reducible rfl
  rotate_left
  · simp only [Act.put, List.setIfInBounds_toArray, List.set_cons_zero, List.set_cons_succ]
    rfl
  refine new_all (W := W) (Q := _) HA.out.1 HA.out.2.1 HA.out.2.2 (fun x1 x3 x4 x6 x7 w hI => new_end hI ?_) 5 false false false false false undef undef undef undef undef _ (by simp) rfl ⟨below_drew1 (pw_below_drewN (Below.refl _ _) _), by simp, by simp, by simp, by simp, by simp⟩
  intro x29 x30 g w' hm hb
  have HM := Aside0.mk hm
  have HB := Aside0.mk hb
  clear hm hb hI
  simp only [nActE]
  go_wp2
  go_ret2
  exact ⟨g, rfl, HM.out, HB.out⟩
set_option maxRecDepth 100000
def rdB (bs : List (List S143)) (i : Int) : List S143 := bs.getD i.toNat []
def MS.get (M : MS) (who at_ : Int) : List S143 := if M.fits who at_ (M.boxes.length : Int) = true then rdB M.boxes at_ else []
def MS.getTo (M : MS) (who at_ : Int) : MS := if M.fits who at_ (M.boxes.length : Int) = true then M.note who 2 at_ true else M
theorem box_at {w : World} {base : Nat} {ok : Nat → Prop} {A : Option Addr} {n c : Nat} {xs : List (List S143)} (h : Kd.R (Kd.slice 143 k143) 57 w base ok (.slice A n c) xs) (i : Int) (h0 : 0 ≤ i) (h1 : i < xs.length) : ∃ ad A0 c0, A = some ad ∧ w.cell? (ad.add i.toNat) = some (.slice A0 (rdB xs i).length c0) ∧ (rdB xs i).length ≤ c0 ∧ k143.C w A0 (rdB xs i).length (rdB xs i) := by
  obtain ⟨e1, e2, e3⟩ := Kd.R_reads' h
  obtain ⟨ad, cs, e, _, hK, hc0⟩ := Kd.C_get e3 ([] : List S143) i h0 h1
  have hc : ∀ j u, cs[j]? = some u → w.cell? (ad.add (i.toNat * 1 + j)) = some u := hc0
  obtain ⟨A0, c0, rfl, l0, g0⟩ := hK
  exact ⟨ad, A0, c0, e, by have hq := hc 0 _ rfl; rwa [Nat.mul_one, Nat.add_zero] at hq, l0, g0⟩
set_option maxHeartbeats 1000000 in
theorem Get_V (who at_ : Int) (hwho : (Lit.int .i64 who).wf = true) (W : World) {base : Nat} {own : Nat → Prop} {g bm : Nat} {vw vb vl vo : Value} {M : MS} (h : MemV W base own g bm vw vb vl vo M) (hf : ∀ k, W.heap.size ≤ k → own k) (hlog : M.log.length ≤ 1000000) (hbox : ∀ b ∈ M.boxes, b.length ≤ 1000000) :
    Calls Try.prog 39 #[.pointer (some ⟨g, 0, none⟩), .int .i64 who, .int .i64 at_] W fun e w' => ∃ v N, e = .returned v ∧ W.heap.size ≤ N ∧ Kd.R k143 143 w' N (fun _ => True) v (M.get who at_) ∧ (∃ vo', MemV w' base (fun k => own k ∧ k < N) g bm vw vb vl vo' (M.getTo who at_)) ∧ Kept W w' own ∧ Below base W w' := by
  obtain ⟨-, hx1, -, -, -, -⟩ := h.cell
  have hbase : base ≤ W.heap.size := Nat.le_trans h.bg (Nat.le_of_lt (blk_lt h.hg))
  cases hq : M.fits who at_ (M.boxes.length : Int)
  · have e0 : M.getTo who at_ = M := by unfold MS.getTo; rw [hq]; rfl
    have e1 : M.get who at_ = [] := by unfold MS.get; rw [hq]; rfl
    rw [e0, e1]
    obtain ⟨A, c, rfl⟩ := Kd.R_slice h.hb
    have H := Aside0.mk h
    have HW := Aside0.mk hwho
    clear h hf hlog hwho e0 e1 hbox hbase
    go_enter Try.func39, Try.ntmps39
    go_wp2_with (first | (go_at_call 86; (with_reducible refine (fits_V who at_ _ HW.out W H.out).mono ?_); rintro e w1 ⟨rfl, rfl⟩))
    go_ret
    exact ⟨_, _, rfl, Nat.le_refl _, Kd.R_nil _ _ _ _ _, ⟨_, H.out.bound⟩, Kept.refl _ _, Below.refl _ _⟩
  · obtain ⟨q0, q1, q2, -⟩ := fits_at hq
    have e0 : M.getTo who at_ = M.note who 2 at_ true := by unfold MS.getTo; rw [hq]; rfl
    have e1 : M.get who at_ = rdB M.boxes at_ := by unfold MS.get; rw [hq]; rfl
    rw [e0, e1]
    obtain ⟨gw, cw, rfl, -⟩ := Kd.R_form h.hb (by omega)
    have H := Aside0.mk h
    have HW := Aside0.mk hwho
    have HF := Aside0.mk hf
    have HL := Aside0.mk hlog
    have HS := Aside0.mk hbase
    have HX : Aside0 ((rdB M.boxes at_).length ≤ 1000000) := ⟨by
      unfold rdB
      rw [List.getD_eq_getElem?_getD, List.getElem?_eq_getElem (by omega)]
      exact hbox _ (List.getElem_mem _)⟩
    clear h hf hlog hwho e0 e1 hbox hbase
    go_enter Try.func39, Try.ntmps39
    go_wp2_with (first | (go_at_call 86; (with_reducible refine (fits_V who at_ _ HW.out W H.out).mono ?_); rintro e w1 ⟨rfl, rfl⟩) | (go_at_call 87; (with_reducible refine (note_V who 2 at_ true _ H.out HF.out HL.out).mono ?_); (rintro e w1 ⟨rfl, vo1, hm1, hk1, hb1⟩; obtain ⟨-, hy1, -, -, -, -⟩ := hm1.cell; obtain ⟨ad, A0, c0, had, hc1, hl1, hC1⟩ := box_at hm1.hb at_ q1 q2; injection had with had; subst had; rw [Addr.add_lit, Nat.zero_add] at hc1; have HM := Aside0.mk hm1; have HK := Aside0.mk hk1; have HB := Aside0.mk hb1; have HC := Aside0.mk (slices_CloneB.calls A0 c0 _ _ w1 hC1 hl1 (by unfold slices_CloneB.f; rw [if_pos (by have h7 := HX.out; exact Nat.lt_of_le_of_lt h7 (by omega))])); clear hx1 hm1 hk1 hb1 hl1 hC1)) | (go_at_call 89; ((with_reducible refine HC.out.mono ?_); rintro e w2 ⟨v2, rfl, hr, hb⟩; obtain ⟨A2, n2, c2, rfl⟩ := R_any hr; have HR := Aside0.mk hr; have HB2 := Aside0.mk hb; clear hr hb)))
    go_ret
    exact ⟨_, _, rfl, HK.out.1, HR.out, ⟨_, HM.out.bound.step (fun k _ hk => HB2.out.block k hk)⟩, HK.out.below HB2.out, below_then HB.out (Nat.le_trans HS.out HK.out.1) HB2.out⟩
set_option maxRecDepth 100000
def MS.set_ (M : MS) (who at_ : Int) (b : List S143) : MS := if M.fits who at_ (M.boxes.length : Int) = true then { M.note who 3 at_ true with boxes := M.boxes.set at_.toNat b } else M
theorem box_slot {w : World} {base : Nat} {own : Nat → Prop} {gw n cw : Nat} {xs : List (List S143)} (h : Kd.R (Kd.slice 143 k143) 57 w base own (.slice (some ⟨gw, 0, none⟩) n cw) xs) (i : Int) (h0 : 0 ≤ i) (h1 : i < n) :
    ∃ old, w.cell? ⟨gw, i.toNat, none⟩ = some old ∧ w.frozen? ⟨gw, i.toNat, none⟩ = false ∧ ∀ (w' : World) (v : Value) (b : List S143), Below w.heap.size w w' → Kd.R k143 143 w' base (fun k => own k ∧ k ≠ gw) v b → Kd.R (Kd.slice 143 k143) 57 (w'.setCell ⟨gw, i.toNat, none⟩ v) base own (.slice (some ⟨gw, 0, none⟩) n cw) (xs.set i.toNat b) ∧ w'.grownBy (w'.setCell ⟨gw, i.toNat, none⟩ v) (some gw) := by
  obtain ⟨c, hcl, -, hcc, hfz⟩ := Kd.R_elem h ([] : List S143) i h0 h1
  have hcl' : c.length = 1 := hcl
  obtain ⟨old, rfl⟩ := List.length_eq_one_iff.1 hcl'
  have hcc0 : w.cell? ⟨gw, i.toNat * 1 + 0, none⟩ = some old := hcc 0 old rfl
  have hfz0 : w.frozen? ⟨gw, i.toNat * 1 + 0, none⟩ = false := hfz 0
  rw [Nat.mul_one, Nat.add_zero] at hcc0 hfz0
  refine ⟨old, hcc0, hfz0, fun w' v b hb hR => ?_⟩
  have hgw : gw < w.heap.size := Kd.R_lt h gw rfl
  have hs := Kd.R_seg (d := Kd.slice 143 k143) (Kd.R_below h hb) i h0 h1 (c := [old]) (seg := [v]) (j := 0) rfl (fun j u hu => by
    have e : w'.cell? ⟨gw, i.toNat * (Kd.slice 143 k143).sz + j, none⟩ = w.cell? ⟨gw, i.toNat * (Kd.slice 143 k143).sz + j, none⟩ := hb.cell (p := ⟨gw, _, none⟩) hgw
    rw [e]; exact hcc j u hu) (Nat.le_refl _) (x' := b) (okp := fun k => own k ∧ k ≠ gw) ⟨v, rfl, hR⟩ (fun k hk => hk)
  have e : w'.setCells gw (i.toNat * (Kd.slice 143 k143).sz + 0) [v] = w'.setCell ⟨gw, i.toNat, none⟩ v := by
    show w'.setCells gw (i.toNat * 1 + 0) [v] = _
    rw [Nat.mul_one, Nat.add_zero]; rfl
  rw [e] at hs
  exact hs
set_option maxHeartbeats 1000000 in
theorem Set_V (who at_ : Int) (hwho : (Lit.int .i64 who).wf = true) (A : Option Addr) (c : Nat) (b : List S143) (W : World) {base : Nat} {own : Nat → Prop} {g bm : Nat} {vw vb vl vo : Value} {M : MS} (h : MemV W base own g bm vw vb vl vo M) (hf : ∀ k, W.heap.size ≤ k → own k) (hlog : M.log.length ≤ 1000000) (hC : Kd.F k143 W (fun k => ¬ own k) A b.length b) (hc : b.length ≤ c) (hbl : b.length ≤ 1000000) :
    Calls Try.prog 34 #[.pointer (some ⟨g, 0, none⟩), .int .i64 who, .int .i64 at_, .slice A b.length c] W fun e w' => e = .returned (.tuple #[]) ∧ MemTo W w' base own g bm vw vb vl (M.set_ who at_ b) := by
  obtain ⟨-, hx1, -, -, -, -⟩ := h.cell
  have hbase : base ≤ W.heap.size := Nat.le_trans h.bg (Nat.le_of_lt (blk_lt h.hg))
  cases hq : M.fits who at_ (M.boxes.length : Int)
  · have e0 : M.set_ who at_ b = M := by unfold MS.set_; rw [hq]; rfl
    rw [e0]
    obtain ⟨A, c, rfl⟩ := Kd.R_slice h.hb
    have H := Aside0.mk h
    have HW := Aside0.mk hwho
    clear h hf hlog hwho e0 hbase hC hc hbl
    go_enter Try.func34, Try.ntmps34
    go_wp2_with (first | (go_at_call 86; (with_reducible refine (fits_V who at_ _ HW.out W H.out).mono ?_); rintro e w1 ⟨rfl, rfl⟩))
    ((try simp only [Exit.inBlock, Exit.then]); first | refine bodyPost_ret (results_none rfl _ _ _) rfl ?_ | refine bodyPost_end (results_none rfl _ _ _) rfl ?_)
    exact ⟨rfl, MemTo.of H.out⟩
  · obtain ⟨q0, q1, q2, -⟩ := fits_at hq
    have e0 : M.set_ who at_ b = { M.note who 3 at_ true with boxes := M.boxes.set at_.toNat b } := by unfold MS.set_; rw [hq]; rfl
    rw [e0]
    obtain ⟨gw, cw, rfl, -⟩ := Kd.R_form h.hb (by omega)
    have H := Aside0.mk h
    have HW := Aside0.mk hwho
    have HF := Aside0.mk hf
    have HL := Aside0.mk hlog
    have HS := Aside0.mk hbase
    have HC0 := Aside0.mk hC
    have HCL := Aside0.mk (show _ ∧ _ from ⟨hc, hbl⟩)
    clear h hf hlog hwho e0 hbase hC hc hbl
    go_enter Try.func34, Try.ntmps34
    go_upto_region 2 with (first | (go_at_call 86; (with_reducible refine (fits_V who at_ _ HW.out W H.out).mono ?_); rintro e w1 ⟨rfl, rfl⟩) | (go_at_call 87; (with_reducible refine (note_V who 3 at_ true _ H.out HF.out HL.out).mono ?_); (rintro e w1 ⟨rfl, vo1, hm1, hk1, hb1⟩; obtain ⟨-, hy1, -, -, -, -⟩ := hm1.cell; obtain ⟨old, hc1, hz1, hst⟩ := box_slot hm1.hb at_ q1 q2; have HM := Aside0.mk hm1; have HK := Aside0.mk hk1; have HB := Aside0.mk hb1; have HST := Aside0.mk hst; have HC := Aside0.mk (fun W' hW' => slices_CloneB.calls A c b b W' (Kd.C_below (Kd.F_now (Kd.F_kept HC0.out hk1 (fun _ h => h))) hW') HCL.out.1 (by unfold slices_CloneB.f; rw [if_pos (by have h7 := HCL.out.2; exact Nat.lt_of_le_of_lt h7 (by omega))])); clear hx1 hm1 hk1 hb1 hst)))
    have hgw : gw < w1.heap.size := Kd.R_lt HM.out.hb gw rfl
    have HGW := Aside0.mk hgw
    clear hgw
    have hne : g ≠ gw := fun e => Kd.R_ne HM.out.hb HM.out.hg (by decide) (congrArg some e)
    have HNE := Aside0.mk hne
    clear hne
    go_region_held3 (fun w' => w'.cell? ⟨g, 1, none⟩ = some (.slice (some ⟨gw, 0, none⟩) M.boxes.length cw))
      (first | exact hy1 | exact hN3 | exact (blk_cell (blk_far hG3 HNE.out _) 1).trans rfl)
      (first | (go_at_call 89; (with_reducible refine (HC.out _ (below_drew (Below.refl _ _))).mono ?_); rintro e w3 ⟨v3, rfl, hr3, hb3⟩; obtain ⟨A3, n3, c3, rfl⟩ := R_any hr3; have hG3 := blk_below (blk_drew HM.out.hg) hb3; have hN3 := show w3.cell? ⟨g, 1, none⟩ = some (.slice (some ⟨gw, 0, none⟩) M.boxes.length cw) from (blk_cell hG3 1).trans rfl; have hc3 : w3.cell? ⟨gw, at_.toNat, none⟩ = some old := (hb3.cell (p := ⟨gw, at_.toNat, none⟩) HGW.out).trans hc1; have hz3 : w3.frozen? ⟨gw, at_.toNat, none⟩ = false := (hb3.frozen (p := ⟨gw, at_.toNat, none⟩) HGW.out).trans hz1))
    all_goals
      ((try simp only [Exit.inBlock, Exit.then]); first | refine bodyPost_ret (results_none rfl _ _ _) rfl ?_ | refine bodyPost_end (results_none rfl _ _ _) rfl ?_)
      have hB3 : Below w1.heap.size w1 w3 := (below_drew (Below.refl _ w1)).trans hb3
      have hsz := HK.out.1
      have hR3 : Kd.R k143 143 w3 base (fun k => own k ∧ k ≠ gw) (.slice A3 n3 c3) b := Kd.R_lower (Kd.R_mono (Kd.R_bound hr3) (fun k hk => ⟨HF.out k (Nat.le_trans hsz hk.2.1), fun e => by have h1 := hk.2.1; have h2 := HGW.out; rw [e] at h1; exact absurd h2 (Nat.not_lt.2 h1)⟩)) (Nat.le_trans HS.out hsz)
      obtain ⟨hs1, hs2⟩ := HST.out w3 _ b hB3 hR3
      have hM3 := HM.out.step (fun k _ hk => hB3.block k hk)
      exact ⟨rfl, vo1, hM3.put_b hs1 hs2, (HK.out.below hB3).setCell (.inl (HM.out.hb.1 gw rfl)) _, (below_then HB.out (Nat.le_trans HS.out hsz) hB3).setCell (Kd.R_base HM.out.hb gw rfl) _⟩
set_option maxRecDepth 100000
def MemC (w : World) (B : Nat) (own : Nat → Prop) (g : Nat) (M : MS) : Prop := MemR w B own g M ∧ ∀ k, own k → k < w.heap.size
def MemNext (w w' : World) (B : Nat) (own : Nat → Prop) (g : Nat) (M : MS) : Prop := (∃ own', MemC w' B own' g M ∧ ∀ k, own' k → own k ∨ w.heap.size ≤ k) ∧ Kept w w' own ∧ Below B w w'
theorem MemC.grown {w : World} {B : Nat} {own : Nat → Prop} {g : Nat} {M : MS} (h : MemC w B own g M) : ∃ bm vw vb vl vo, MemV w B (fun k => own k ∨ w.heap.size ≤ k) g bm vw vb vl vo M := by
  obtain ⟨bm, vw, vb, vl, vo, h⟩ := h.1
  exact ⟨bm, vw, vb, vl, vo, h.mono (fun k hk => .inl hk)⟩
theorem MemTo.next {w w' : World} {B : Nat} {own : Nat → Prop} {g bm : Nat} {vw vb vl : Value} {M : MS} (h : MemTo w w' B (fun k => own k ∨ w.heap.size ≤ k) g bm vw vb vl M) : MemNext w w' B own g M := by
  obtain ⟨vo, hm, hk, hb⟩ := h
  exact ⟨⟨_, ⟨⟨_, _, _, _, _, hm.bound⟩, fun k hk => hk.2⟩, fun k hk => hk.1⟩, ⟨hk.1, fun i hi hn => hk.2 i hi (fun hs => hs.elim hn (fun h => by omega))⟩, hb⟩
theorem MemC.below {w w' : World} {B : Nat} {own : Nat → Prop} {g : Nat} {M : MS} (h : MemC w B own g M) (hb : Below w.heap.size w w') : MemC w' B own g M := ⟨h.1.below hb, fun k hk => Nat.lt_of_lt_of_le (h.2 k hk) hb.size⟩
theorem MemC.kept {w w' : World} {B : Nat} {own S : Nat → Prop} {g : Nat} {M : MS} (h : MemC w B own g M) (hk : Kept w w' S) (hne : ∀ k, own k → ¬ S k) : MemC w' B own g M := ⟨h.1.kept hk hne, fun k ho => Nat.lt_of_lt_of_le (h.2 k ho) hk.1⟩
theorem MemC.size {w : World} {B : Nat} {own : Nat → Prop} {g : Nat} {M : MS} (h : MemC w B own g M) : B ≤ w.heap.size := by
  obtain ⟨bm, vw, vb, vl, vo, h⟩ := h.1
  exact Nat.le_trans h.bg (Nat.le_of_lt (blk_lt h.hg))
theorem New_C (a b c : Nat) (ha : a ≤ 65536) (hb : b ≤ 65536) (hc : c ≤ 65536) (W : World) :
    Calls Try.prog 30 #[.int .i64 a, .int .i64 b, .int .i64 c] W fun e w' => ∃ g own, e = .returned (.tuple #[.pointer (some ⟨g, 0, none⟩), .int .i64 0]) ∧ MemC w' W.heap.size own g ⟨List.replicate a 0, List.replicate b [], List.replicate c (-1), fun _ => none, 0, []⟩ ∧ (∀ k, own k → W.heap.size ≤ k) ∧ Below W.heap.size W w' := by
  refine (New_ok a b c ha hb hc W).mono ?_
  rintro e w' ⟨g, rfl, ⟨bm, vw, vb, vl, vo, hm⟩, hb⟩
  exact ⟨g, _, rfl, ⟨⟨_, _, _, _, _, hm.bound⟩, fun k hk => hk.2⟩, fun k hk => hk.1, hb⟩
section
variable {w : World} {B : Nat} {own : Nat → Prop} {g : Nat} {M : MS}
theorem Asleep_C (who : Int) (hwho : (Lit.int .i64 who).wf = true) (h : MemC w B own g M) : Calls Try.prog 44 #[.pointer (some ⟨g, 0, none⟩), .int .i64 who] w fun e w' => e = .returned (.bool (M.beds who).isSome) ∧ w' = w := by
  obtain ⟨bm, vw, vb, vl, vo, h⟩ := h.1
  exact Asleep_V who hwho w h
theorem Time_C (h : MemC w B own g M) : Calls Try.prog 43 #[.pointer (some ⟨g, 0, none⟩)] w fun e w' => e = .returned (.int .i64 (M.log.length : Int)) ∧ w' = w := by
  obtain ⟨bm, vw, vb, vl, vo, h⟩ := h.1
  exact Time_V w h
theorem Store_C (who at_ : Int) (v : Int) (hwho : (Lit.int .i64 who).wf = true) (h : MemC w B own g M) (hlog : M.log.length ≤ 1000000) : Calls Try.prog 32 #[.pointer (some ⟨g, 0, none⟩), .int .i64 who, .int .i64 at_, .int .u64 v] w fun e w' => e = .returned (.tuple #[]) ∧ MemNext w w' B own g (M.store who at_ v) := by
  obtain ⟨bm, vw, vb, vl, vo, h⟩ := h.grown
  refine (Store_V who at_ v hwho w h (fun k hk => .inr hk) hlog).mono ?_
  rintro e w' ⟨rfl, hm⟩
  exact ⟨rfl, hm.next⟩
theorem Load_C (who at_ : Int) (hwho : (Lit.int .i64 who).wf = true) (h : MemC w B own g M) (hlog : M.log.length ≤ 1000000) : Calls Try.prog 36 #[.pointer (some ⟨g, 0, none⟩), .int .i64 who, .int .i64 at_] w fun e w' => e = .returned (.int .u64 (M.load who at_)) ∧ MemNext w w' B own g (M.loadTo who at_) := by
  obtain ⟨bm, vw, vb, vl, vo, h⟩ := h.grown
  refine (Load_V who at_ hwho w h (fun k hk => .inr hk) hlog).mono ?_
  rintro e w' ⟨rfl, hm⟩
  exact ⟨rfl, hm.next⟩
theorem Get_C (who at_ : Int) (hwho : (Lit.int .i64 who).wf = true) (h : MemC w B own g M) (hlog : M.log.length ≤ 1000000) (hbox : ∀ b ∈ M.boxes, b.length ≤ 1000000) : Calls Try.prog 39 #[.pointer (some ⟨g, 0, none⟩), .int .i64 who, .int .i64 at_] w fun e w' => ∃ v own', e = .returned v ∧ Kd.R k143 143 w' w.heap.size (fun k => ¬ own' k) v (M.get who at_) ∧ (MemC w' B own' g (M.getTo who at_) ∧ ∀ k, own' k → own k ∨ w.heap.size ≤ k) ∧ Kept w w' own ∧ Below B w w' := by
  obtain ⟨bm, vw, vb, vl, vo, h⟩ := h.grown
  refine (Get_V who at_ hwho w h (fun k hk => .inr hk) hlog hbox).mono ?_
  rintro e w' ⟨v, N, rfl, hN, hR, ⟨vo', hm⟩, hk, hb⟩
  have hm2 := hm.bound
  exact ⟨v, _, rfl, Kd.R_lower (Kd.R_mono (Kd.R_bound hR) (fun k hk hn => by have h1 := hk.2.1; have h2 := hn.1.2; omega)) hN, ⟨⟨⟨_, _, _, _, _, hm2⟩, fun k hk => hk.2⟩, fun k hk => hk.1.1⟩, ⟨hk.1, fun i hi hn => hk.2 i hi (fun hs => hs.elim hn (fun h => by omega))⟩, hb⟩
theorem Set_C (who at_ : Int) (hwho : (Lit.int .i64 who).wf = true) (A : Option Addr) (c : Nat) (b : List S143) (h : MemC w B own g M) (hlog : M.log.length ≤ 1000000) (hC : Kd.F k143 w (fun k => ¬ own k ∧ k < w.heap.size) A b.length b) (hc : b.length ≤ c) (hbl : b.length ≤ 1000000) : Calls Try.prog 34 #[.pointer (some ⟨g, 0, none⟩), .int .i64 who, .int .i64 at_, .slice A b.length c] w fun e w' => e = .returned (.tuple #[]) ∧ MemNext w w' B own g (M.set_ who at_ b) := by
  obtain ⟨bm, vw, vb, vl, vo, h⟩ := h.grown
  refine (Set_V who at_ hwho A c b w h (fun k hk => .inr hk) hlog (Kd.F_mono hC (fun k hk hn => hn.elim hk.1 (fun h => by have := hk.2; omega))) hc hbl).mono ?_
  rintro e w' ⟨rfl, hm⟩
  exact ⟨rfl, hm.next⟩
end
set_option maxRecDepth 100000
structure RC where
  gm : Nat
  box : Int
  size : Int
  wi : Int
  ci : Int
  ai : Value
  wo : Int
  co : Int
  ao : Value
def RC.cells (R : RC) : Array Value := #[.pointer (some ⟨R.gm, 0, none⟩), .int .i64 R.box, .int .i64 R.size, .int .i64 R.wi, .int .u64 R.ci, R.ai, .int .i64 R.wo, .int .u64 R.co, R.ao]
structure AC where
  who : Int
  out : Bool
  st : Value
  b : Value
  ok : Bool
  mark : Int
def AC.own (A : AC) : Nat := if A.out then 6 else 3
def AC.far (A : AC) : Nat := if A.out then 3 else 6
def AC.cells (A : AC) (gr : Nat) : Array Value := #[.pointer (some ⟨gr, 0, none⟩), .int .i64 A.who, .pointer (some ⟨gr, A.own, none⟩), .pointer (some ⟨gr, A.far, none⟩), A.st, A.b, .bool A.ok, .int .i64 A.mark]
def stg (f : Nat) : Value := .func (.func f) #[] #[]
def ActAt (w : World) (gr na : Nat) (A : AC) : Prop := w.heap[na]? = some (.cells (A.cells gr) 157 (0, 0))
def RingAt (w : World) (gr : Nat) (R : RC) : Prop := w.heap[gr]? = some (.cells R.cells 154 (0, 0))
theorem eql_nil (W : World) : Sem.run Try.prog (binOp BinOp.eql 155 Value.nilFunc Value.nilFunc) W = .ok (.bool true) W := by kernel_rfl
theorem eql_func (f : Nat) (W : World) : Sem.run Try.prog (binOp BinOp.eql 155 (.func (.func f) #[] #[]) Value.nilFunc) W = .ok (.bool false) W := by kernel_rfl
theorem Over_nil (W : World) : Calls Try.prog 57 #[.pointer none] W fun e w' => e = .returned (.bool true) ∧ w' = W := by
  go_enter Try.func57, Try.ntmps57
  go_wp2
  go_ret
  exact ⟨rfl, rfl⟩
section
variable {W : World} {gr na : Nat} {R : RC} {A : AC}
theorem ActAt.cell (h : ActAt W gr na A) : W.cell? ⟨na, 0, none⟩ = some (.pointer (some ⟨gr, 0, none⟩)) ∧ W.cell? ⟨na, 1, none⟩ = some (.int .i64 A.who) ∧ W.cell? ⟨na, 2, none⟩ = some (.pointer (some ⟨gr, A.own, none⟩)) ∧ W.cell? ⟨na, 3, none⟩ = some (.pointer (some ⟨gr, A.far, none⟩)) ∧ W.cell? ⟨na, 4, none⟩ = some A.st ∧ W.cell? ⟨na, 5, none⟩ = some A.b ∧ W.cell? ⟨na, 6, none⟩ = some (.bool A.ok) ∧ W.cell? ⟨na, 7, none⟩ = some (.int .i64 A.mark) := by
  refine ⟨?_, ?_, ?_, ?_, ?_, ?_, ?_, ?_⟩ <;> (rw [blk_cell h]; rfl)
theorem RingAt.cell (h : RingAt W gr R) : W.cell? ⟨gr, 0, none⟩ = some (.pointer (some ⟨R.gm, 0, none⟩)) ∧ W.cell? ⟨gr, 1, none⟩ = some (.int .i64 R.box) ∧ W.cell? ⟨gr, 2, none⟩ = some (.int .i64 R.size) ∧ W.cell? ⟨gr, 3, none⟩ = some (.int .i64 R.wi) ∧ W.cell? ⟨gr, 4, none⟩ = some (.int .u64 R.ci) ∧ W.cell? ⟨gr, 5, none⟩ = some R.ai ∧ W.cell? ⟨gr, 6, none⟩ = some (.int .i64 R.wo) ∧ W.cell? ⟨gr, 7, none⟩ = some (.int .u64 R.co) ∧ W.cell? ⟨gr, 8, none⟩ = some R.ao := by
  refine ⟨?_, ?_, ?_, ?_, ?_, ?_, ?_, ?_, ?_⟩ <;> (rw [blk_cell h]; rfl)
theorem Over_done (h : ActAt W gr na A) (hs : A.st = .nilFunc) : Calls Try.prog 57 #[.pointer (some ⟨na, 0, none⟩)] W fun e w' => e = .returned (.bool true) ∧ w' = W := by
  obtain ⟨-, -, -, -, hx4, -⟩ := h.cell
  rw [hs] at hx4
  have hrun := eql_nil W
  go_enter Try.func57, Try.ntmps57
  go_wp2
  go_ret
  exact ⟨rfl, rfl⟩
theorem Over_on (h : ActAt W gr na A) {f : Nat} (hs : A.st = stg f) : Calls Try.prog 57 #[.pointer (some ⟨na, 0, none⟩)] W fun e w' => e = .returned (.bool false) ∧ w' = W := by
  obtain ⟨-, -, -, -, hx4, -⟩ := h.cell
  rw [hs] at hx4
  unfold stg at hx4
  have hrun := eql_func f W
  go_enter Try.func57, Try.ntmps57
  go_wp2
  go_ret
  exact ⟨rfl, rfl⟩
theorem Ok_C (h : ActAt W gr na A) : Calls Try.prog 60 #[.pointer (some ⟨na, 0, none⟩)] W fun e w' => e = .returned (.bool A.ok) ∧ w' = W := by
  obtain ⟨-, -, -, -, -, -, hx6, -⟩ := h.cell
  go_enter Try.func60, Try.ntmps60
  go_wp2
  go_ret
  exact ⟨rfl, rfl⟩
theorem Mark_C (h : ActAt W gr na A) : Calls Try.prog 62 #[.pointer (some ⟨na, 0, none⟩)] W fun e w' => e = .returned (.int .i64 A.mark) ∧ w' = W := by
  obtain ⟨-, -, -, -, -, -, -, hx7⟩ := h.cell
  go_enter Try.func62, Try.ntmps62
  go_wp2
  go_ret
  exact ⟨rfl, rfl⟩
theorem done_C (h : ActAt W gr na A) (ok : Bool) : Calls Try.prog 112 #[.pointer (some ⟨na, 0, none⟩), .bool ok] W fun e w' => e = .returned (.tuple #[]) ∧ ActAt w' gr na { A with st := .nilFunc, ok := ok } ∧ Kept W w' (fun k => k = na) ∧ ∀ B, B ≤ na → Below B W w' := by
  obtain ⟨-, -, -, -, hx4, -, hx6, -⟩ := h.cell
  have hz4 := blk_frozen h 4
  have hz6 := blk_frozen h 6
  have H := Aside0.mk h
  clear h
  go_enter Try.func112, Try.ntmps112
  go_wp2
  ((try simp only [Exit.inBlock, Exit.then]); first | refine bodyPost_ret (results_none rfl _ _ _) rfl ?_ | refine bodyPost_end (results_none rfl _ _ _) rfl ?_)
  refine ⟨rfl, ?_, ((Kept.refl W (fun k => k = na)).setCell (p := ⟨na, 6, none⟩) (.inl rfl) _).setCell (p := ⟨na, 4, none⟩) (.inl rfl) _, fun B hB => ((Below.refl B W).setCell (p := ⟨na, 6, none⟩) hB _).setCell (p := ⟨na, 4, none⟩) hB _⟩
  exact blk_put (blk_put H.out 6 _ rfl) 4 _ rfl
end
set_option maxRecDepth 100000
def AC.cnt (A : AC) (R : RC) : Int := if A.out then R.co else R.ci
def RC.place (R : RC) (c : Int) : Int := R.box + c % R.size
structure RC.Fit (R : RC) : Prop where
  sz : R.size = 1 ∨ R.size = 2 ∨ R.size = 4 ∨ R.size = 8 ∨ R.size = 16
  bx : 0 ≤ R.box ∧ R.box ≤ 1000000
  ci : 0 ≤ R.ci ∧ R.ci < 18446744073709551616
  co : 0 ≤ R.co ∧ R.co < 18446744073709551616
theorem and_size {s c : Int} (hs : s = 1 ∨ s = 2 ∨ s = 4 ∨ s = 8 ∨ s = 16) (h0 : 0 ≤ c) (h1 : c < 18446744073709551616) : bits .and .u64 c (s - 1) = c % s := by
  have key : ∀ m : Nat, m ≤ 64 → bits .and .u64 c ((2 : Int) ^ m - 1) = c % (2 : Int) ^ m := fun m hm => by
    have h := bits_mask .u64 64 (by decide) wraps_u64 m hm c h0 (by omega)
    exact_mod_cast h
  rcases hs with rfl | rfl | rfl | rfl | rfl
  · exact key 0 (by omega)
  · exact key 1 (by omega)
  · exact key 2 (by omega)
  · exact key 3 (by omega)
  · exact key 4 (by omega)
theorem RC.Fit.nums {R : RC} (h : R.Fit) {c : Int} (h0 : 0 ≤ c) (h1 : c < 18446744073709551616) : IntKind.i64.wrap (R.size - 1) = R.size - 1 ∧ IntKind.u64.wrap (R.size - 1) = R.size - 1 ∧ bits .and .u64 c (R.size - 1) = c % R.size ∧ IntKind.i64.wrap (c % R.size) = c % R.size ∧ IntKind.i64.wrap (R.box + c % R.size) = R.place c ∧ 0 ≤ c % R.size ∧ c % R.size < R.size ∧ R.size ≤ 16 ∧ 1 ≤ R.size := by
  have hs := h.sz
  have hb := h.bx
  have s1 : 1 ≤ R.size ∧ R.size ≤ 16 := by omega
  have m0 := Int.emod_nonneg c (show R.size ≠ 0 by omega)
  have m1 := Int.emod_lt_of_pos c (show 0 < R.size by omega)
  refine ⟨?_, ?_, and_size hs h0 h1, ?_, ?_, m0, m1, s1.2, s1.1⟩
  · rw [IntKind.wrap_i64]; omega
  · rw [IntKind.wrap_u64]; omega
  · rw [IntKind.wrap_i64]; omega
  · unfold RC.place; rw [IntKind.wrap_i64]; omega
section
variable {W : World} {gr na : Nat} {R : RC} {A : AC}
theorem place_C (h : ActAt W gr na A) (hr : RingAt W gr R) (hf : R.Fit) : Calls Try.prog 122 #[.pointer (some ⟨na, 0, none⟩)] W fun e w' => e = .returned (.int .i64 (R.place (A.cnt R))) ∧ w' = W.drew := by
  obtain ⟨hx0, -, hx2, -⟩ := h.cell
  obtain ⟨-, hy1, hy2, -, hy4, -, -, hy7, -⟩ := hr.cell
  have hc : 0 ≤ A.cnt R ∧ A.cnt R < 18446744073709551616 := by unfold AC.cnt; split; exact hf.co; exact hf.ci
  obtain ⟨n1, n2, n3, n4, n5, -⟩ := hf.nums hc.1 hc.2
  clear h hr hf hc
  unfold AC.cnt at n3 n4 n5 ⊢
  unfold AC.own at hx2
  cases ho : A.out
  · rw [ho] at hx2 n3 n4 n5
    simp only [Bool.false_eq_true, if_false] at hx2 n3 n4 n5
    simp only [Bool.false_eq_true, if_false]
    go_enter Try.func122, Try.ntmps122
    go_upto_region 1 with fail
    go_region_held3 (fun w' => w'.cell? ⟨na, 0, none⟩ = some (.pointer (some ⟨gr, 0, none⟩)) ∧ w'.cell? ⟨na, 2, none⟩ = some (.pointer (some ⟨gr, 3, none⟩)) ∧ w'.cell? ⟨gr, 1, none⟩ = some (.int .i64 R.box) ∧ w'.cell? ⟨gr, 2, none⟩ = some (.int .i64 R.size) ∧ w'.cell? ⟨gr, 4, none⟩ = some (.int .u64 R.ci))
      (exact ⟨hx0, hx2, hy1, hy2, hy4⟩) (fail)
    all_goals
      go_wp2
      go_ret
      exact ⟨rfl, rfl⟩
  · rw [ho] at hx2 n3 n4 n5
    simp only [if_true] at hx2 n3 n4 n5
    simp only [if_true]
    go_enter Try.func122, Try.ntmps122
    go_upto_region 1 with fail
    go_region_held3 (fun w' => w'.cell? ⟨na, 0, none⟩ = some (.pointer (some ⟨gr, 0, none⟩)) ∧ w'.cell? ⟨na, 2, none⟩ = some (.pointer (some ⟨gr, 6, none⟩)) ∧ w'.cell? ⟨gr, 1, none⟩ = some (.int .i64 R.box) ∧ w'.cell? ⟨gr, 2, none⟩ = some (.int .i64 R.size) ∧ w'.cell? ⟨gr, 7, none⟩ = some (.int .u64 R.co))
      (exact ⟨hx0, hx2, hy1, hy2, hy7⟩) (fail)
    all_goals
      go_wp2
      go_ret
      exact ⟨rfl, rfl⟩
end
set_option maxRecDepth 100000
theorem cell_eq' {w w' : World} {k i : Nat} (h : w'.heap[k]? = w.heap[k]?) : w'.cell? ⟨k, i, none⟩ = w.cell? ⟨k, i, none⟩ := by
  unfold World.cell?
  simp only [h]
structure RG (w : World) (B : Nat) (own : Nat → Prop) (gr na : Nat) (M : MS) (R : RC) (A : AC) (bl : List S143) : Prop where
  mem : MemC w B own R.gm M
  ring : RingAt w gr R
  act : ActAt w gr na A
  fit : R.Fit
  r1 : ¬ own gr
  a1 : ¬ own na
  ne : gr ≠ na
  gB : B ≤ gr
  aB : B ≤ na
  bx : ∃ Ab cb, A.b = .slice Ab bl.length cb ∧ bl.length ≤ cb ∧ Kd.F k143 w (fun k => ¬ own k ∧ k ≠ gr ∧ k ≠ na ∧ k < w.heap.size) Ab bl.length bl
def RGTo (w w' : World) (B : Nat) (own : Nat → Prop) (gr na : Nat) (M : MS) (R : RC) (A : AC) (bl : List S143) : Prop :=
  ∃ own', RG w' B own' gr na M R A bl ∧ (∀ k, own' k → own k ∨ w.heap.size ≤ k) ∧ Kept w w' (fun k => own k ∨ k = gr ∨ k = na) ∧ Below B w w'
section
variable {w w' w2 : World} {B : Nat} {own own' : Nat → Prop} {gr na : Nat} {M M' : MS} {R R' : RC} {A A' : AC} {bl bl' : List S143}
theorem RG.below (h : RG w B own gr na M R A bl) (hb : Below w.heap.size w w') : RG w' B own gr na M R A bl := by
  obtain ⟨Ab, cb, e1, e2, e3⟩ := h.bx
  exact ⟨h.mem.below hb, (hb.block gr (blk_lt h.ring)).trans h.ring, (hb.block na (blk_lt h.act)).trans h.act, h.fit, h.r1, h.a1, h.ne, h.gB, h.aB, Ab, cb, e1, e2, Kd.F_mono (Kd.F_step e3 (fun k _ hlt => hb.block k hlt)) (fun k ho => ⟨ho.1, ho.2.1, ho.2.2.1, Nat.lt_of_lt_of_le ho.2.2.2 hb.size⟩)⟩
theorem RG.next (h : RG w B own gr na M R A bl) (hc : MemC w' B own' R.gm M') (hs : ∀ k, own' k → own k ∨ w.heap.size ≤ k) (hk : Kept w w' own) : RG w' B own' gr na M' R A bl := by
  obtain ⟨Ab, cb, e1, e2, e3⟩ := h.bx
  have q1 := blk_lt h.ring
  have q2 := blk_lt h.act
  exact ⟨hc, (hk.2 gr q1 h.r1).trans h.ring, (hk.2 na q2 h.a1).trans h.act, h.fit, fun ho => (hs gr ho).elim h.r1 (fun hl => by omega), fun ho => (hs na ho).elim h.a1 (fun hl => by omega), h.ne, h.gB, h.aB, Ab, cb, e1, e2,
    Kd.F_mono (Kd.F_step e3 (fun k ho hlt => hk.2 k hlt ho.1)) (fun k ho => ⟨fun h2 => (hs k h2).elim ho.1 (fun hl => by have := ho.2.2.2; omega), ho.2.1, ho.2.2.1, Nat.lt_of_lt_of_le ho.2.2.2 hk.1⟩)⟩
theorem RG.turn (h : RG w B own gr na M R A bl) (hk : Kept w w' (fun k => k = na)) (ha : ActAt w' gr na A') (hb : A'.b = A.b) : RG w' B own gr na M R A' bl := by
  obtain ⟨Ab, cb, e1, e2, e3⟩ := h.bx
  exact ⟨h.mem.kept hk (fun k ho e => h.a1 (e ▸ ho)), (hk.2 gr (blk_lt h.ring) h.ne).trans h.ring, ha, h.fit, h.r1, h.a1, h.ne, h.gB, h.aB, Ab, cb, hb.trans e1, e2,
    Kd.F_mono (Kd.F_step e3 (fun k ho hlt => hk.2 k hlt ho.2.2.1)) (fun k ho => ⟨ho.1, ho.2.1, ho.2.2.1, Nat.lt_of_lt_of_le ho.2.2.2 hk.1⟩)⟩
theorem RG.ringTurn (h : RG w B own gr na M R A bl) (hk : Kept w w' (fun k => k = gr)) (hr : RingAt w' gr R') (hf : R'.Fit) (hg : R'.gm = R.gm) : RG w' B own gr na M R' A bl := by
  obtain ⟨Ab, cb, e1, e2, e3⟩ := h.bx
  exact ⟨by rw [hg]; exact h.mem.kept hk (fun k ho e => h.r1 (e ▸ ho)), hr, (hk.2 na (blk_lt h.act) (fun e => h.ne e.symm)).trans h.act, hf, h.r1, h.a1, h.ne, h.gB, h.aB, Ab, cb, e1, e2,
    Kd.F_mono (Kd.F_step e3 (fun k ho hlt => hk.2 k hlt ho.2.1)) (fun k ho => ⟨ho.1, ho.2.1, ho.2.2.1, Nat.lt_of_lt_of_le ho.2.2.2 hk.1⟩)⟩
theorem kept_or {p q : Nat → Prop} (h : Kept w w' p) (h2 : ∀ k, p k → q k) : Kept w w' q := ⟨h.1, fun i hi hn => h.2 i hi (fun hp => hn (h2 i hp))⟩
theorem kept_trans {p : Nat → Prop} (h : Kept w w' p) (h2 : Kept w' w2 (fun k => p k ∨ w.heap.size ≤ k)) : Kept w w2 p := ⟨Nat.le_trans h.1 h2.1, fun i hi hn => (h2.2 i (Nat.lt_of_lt_of_le hi h.1) (fun hp => hp.elim hn (fun hl => by omega))).trans (h.2 i hi hn)⟩
theorem RGTo.nextM (h : RG w B own gr na M R A bl) (hn : MemNext w w' B own R.gm M') : RGTo w w' B own gr na M' R A bl := by
  obtain ⟨⟨own', hc, hs⟩, hk, hb⟩ := hn
  exact ⟨own', h.next hc hs hk, hs, kept_or hk (fun k => .inl), hb⟩
theorem RGTo.turn (h : RGTo w w' B own gr na M R A bl) (hk : Kept w' w2 (fun k => k = na)) (hb : Below B w' w2) (ha : ActAt w2 gr na A') (hbb : A'.b = A.b) : RGTo w w2 B own gr na M R A' bl := by
  obtain ⟨own', h1, hs, hk1, hb1⟩ := h
  exact ⟨own', h1.turn hk ha hbb, hs, kept_trans hk1 (kept_or hk (fun k e => .inl (.inr (.inr e)))), hb1.trans hb⟩
theorem RGTo.of_below (h : RG w B own gr na M R A bl) (hb : Below w.heap.size w w') (h2 : RGTo w' w2 B own gr na M' R' A' bl') : RGTo w w2 B own gr na M' R' A' bl' := by
  obtain ⟨own', h3, hs, hk, hb2⟩ := h2
  refine ⟨own', h3, fun k ho => (hs k ho).imp id (Nat.le_trans hb.size), ⟨Nat.le_trans hb.size hk.1, fun i hi hn => (hk.2 i (Nat.lt_of_lt_of_le hi hb.size) hn).trans (hb.block i hi)⟩, (below_then (Below.refl B w) h.mem.size hb).trans hb2⟩
theorem RG.self (h : RG w B own gr na M R A bl) : RGTo w w B own gr na M R A bl := ⟨own, h, fun k => .inl, Kept.refl _ _, Below.refl _ _⟩
end
section
variable {W : World} {B : Nat} {own : Nat → Prop} {gr na : Nat} {M : MS} {R : RC} {A : AC} {bl : List S143}
theorem room_C (full : Bool) (h : RG W B own gr na M R A bl) (ho : A.out = false) (hwho : (Lit.int .i64 A.who).wf = true) (hlog : M.log.length ≤ 1000000) (hd : decide (R.size ≤ IntKind.u64.wrap (R.ci - M.load A.who R.wo)) = full) :
    Calls Try.prog 95 #[.pointer (some ⟨na, 0, none⟩)] W fun e w' => e = .returned (.tuple #[]) ∧ RGTo W w' B own gr na (M.loadTo A.who R.wo) R (if full then { A with st := .nilFunc, ok := false } else { A with st := stg 114 }) bl := by
  obtain ⟨hx0, hx1, hx2, hx3, hx4, -, -, -⟩ := h.act.cell
  obtain ⟨hy0, -, hy2, -, hy4, -, hy6, -, -⟩ := h.ring.cell
  unfold AC.own at hx2
  unfold AC.far at hx3
  rw [ho] at hx2 hx3
  simp only [Bool.false_eq_true, if_false] at hx2 hx3
  have ns : IntKind.u64.wrap R.size = R.size := by have := h.fit.sz; rw [IntKind.wrap_u64]; omega
  have H := Aside0.mk h
  have H1 := Aside0.mk (h.below (below_drew (Below.refl _ W)))
  have HW := Aside0.mk (show _ ∧ _ from ⟨hwho, hlog⟩)
  obtain ⟨ld, hld⟩ : ∃ ld, M.load A.who R.wo = ld := ⟨_, rfl⟩
  have LC0 := Load_C A.who R.wo HW.out.1 H1.out.mem HW.out.2
  rw [hld] at hd LC0
  have LC := Aside0.mk LC0
  clear h hwho hlog hld LC0 ho
  go_enter Try.func95, Try.ntmps95
  go_upto_region 0 with fail
  go_region_held3 (fun w' => w'.cell? ⟨na, 0, none⟩ = some (.pointer (some ⟨gr, 0, none⟩)) ∧ w'.cell? ⟨na, 1, none⟩ = some (.int .i64 A.who) ∧ w'.cell? ⟨na, 2, none⟩ = some (.pointer (some ⟨gr, 3, none⟩)) ∧ w'.cell? ⟨na, 3, none⟩ = some (.pointer (some ⟨gr, 6, none⟩)) ∧ w'.cell? ⟨gr, 0, none⟩ = some (.pointer (some ⟨R.gm, 0, none⟩)) ∧ w'.cell? ⟨gr, 2, none⟩ = some (.int .i64 R.size) ∧ w'.cell? ⟨gr, 4, none⟩ = some (.int .u64 R.ci) ∧ w'.cell? ⟨gr, 6, none⟩ = some (.int .i64 R.wo))
    (first | exact ⟨hx0, hx1, hx2, hx3, hy0, hy2, hy4, hy6⟩ | exact hN5)
    (first | (go_at_call 36; ((with_reducible refine LC.out.mono ?_); rintro e w5 ⟨rfl, hn⟩; have hN5 : w5.cell? ⟨na, 0, none⟩ = some (.pointer (some ⟨gr, 0, none⟩)) ∧ w5.cell? ⟨na, 1, none⟩ = some (.int .i64 A.who) ∧ w5.cell? ⟨na, 2, none⟩ = some (.pointer (some ⟨gr, 3, none⟩)) ∧ w5.cell? ⟨na, 3, none⟩ = some (.pointer (some ⟨gr, 6, none⟩)) ∧ w5.cell? ⟨gr, 0, none⟩ = some (.pointer (some ⟨R.gm, 0, none⟩)) ∧ w5.cell? ⟨gr, 2, none⟩ = some (.int .i64 R.size) ∧ w5.cell? ⟨gr, 4, none⟩ = some (.int .u64 R.ci) ∧ w5.cell? ⟨gr, 6, none⟩ = some (.int .i64 R.wo) := ⟨(cell_eq' (hn.2.1.2 na (blk_lt H1.out.act) H1.out.a1)).trans hx0, (cell_eq' (hn.2.1.2 na (blk_lt H1.out.act) H1.out.a1)).trans hx1, (cell_eq' (hn.2.1.2 na (blk_lt H1.out.act) H1.out.a1)).trans hx2, (cell_eq' (hn.2.1.2 na (blk_lt H1.out.act) H1.out.a1)).trans hx3, (cell_eq' (hn.2.1.2 gr (blk_lt H1.out.ring) H1.out.r1)).trans hy0, (cell_eq' (hn.2.1.2 gr (blk_lt H1.out.ring) H1.out.r1)).trans hy2, (cell_eq' (hn.2.1.2 gr (blk_lt H1.out.ring) H1.out.r1)).trans hy4, (cell_eq' (hn.2.1.2 gr (blk_lt H1.out.ring) H1.out.r1)).trans hy6⟩; have HN := Aside0.mk (RGTo.nextM H1.out hn); clear hn)))
  all_goals
    have HT := Aside0.mk (RGTo.of_below H.out (below_drew (Below.refl _ W)) HN.out)
    obtain ⟨own1, hrg, hs1, hk1, hb1⟩ := HT.out
    have HG := Aside0.mk hrg
    have hq4 := hrg.act.cell.2.2.2.2.1
    have hqz := blk_frozen hrg.act 4
    clear hrg hs1 hk1 hb1
    cases full
    · go_wp2
      ((try simp only [Exit.inBlock, Exit.then]); first | refine bodyPost_ret (results_none rfl _ _ _) rfl ?_ | refine bodyPost_end (results_none rfl _ _ _) rfl ?_)
      exact ⟨rfl, HT.out.turn ((Kept.refl _ (fun k => k = na)).setCell (p := ⟨na, 4, none⟩) (.inl rfl) _) ((Below.refl B _).setCell (p := ⟨na, 4, none⟩) HG.out.aB _) (blk_put HG.out.act 4 _ rfl) rfl⟩
    · go_wp2_with (first | (go_at_call 112; ((with_reducible refine (done_C HG.out.act false).mono ?_); rintro e w6 ⟨rfl, ha, hk, hb⟩; have HD := Aside0.mk (show _ ∧ _ ∧ _ from ⟨ha, hk, hb B HG.out.aB⟩); clear ha hk hb)))
      ((try simp only [Exit.inBlock, Exit.then]); first | refine bodyPost_ret (results_none rfl _ _ _) rfl ?_ | refine bodyPost_end (results_none rfl _ _ _) rfl ?_)
      exact ⟨rfl, HT.out.turn HD.out.2.1 HD.out.2.2 HD.out.1 rfl⟩
end
end Go.Proofs.Ytlcnckbmolefpaa.P
end
