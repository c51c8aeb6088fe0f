/- Walks and laws of several statements of this seat, joined into one text; no condition. -/
import Derived.Test.YtlcnckbmolefpaaProg
import Derived.Below
import Derived.Deep.Draws
import Derived.Deep.AppendLies
import Derived.Maps.AppendAt
import Derived.OwnWalk
import Derived.Laws.BytesArg
import Derived.Laws.MakeOwn
import Derived.Laws.OwnMore
import Derived.Deep.OwnRows
import Derived.Tactics
import Derived.Lib.ConvBytes
import Derived.Laws.Slices
import Derived.WalkKit
import Derived.KernelRfl
import Derived.RowKit3
import Derived.Deep.LoopGhost
import Derived.Deep.QuietTactic
import Derived.BigQuiet
import Derived.WideLaws
import Derived.Deep.DeepCutAuto
import Derived.Deep.CutBlock
import Derived.Deep.RegionHeld3
import Derived.Laws.Rows
import Derived.Lib.AppendStr
import Derived.ArgAppend
import Derived.Laws.IdiomCopy
import Derived.OrdersHeld
import Derived.Laws.BitsLemmas
import Derived.RowKit
import Derived.Laws.StructEq
import Derived.Maps.RangeWalk
import Derived.Maps.OwnRows
import Derived.Maps.Views
import Derived.Maps.OwnSet
import Derived.IntWalk
import Derived.Shelf.SlMaps.Clone
import Derived.Laws.CopyOwn
import Derived.Deep.RegionLaw
import Derived.LoopTactic
import Derived.Outline
import Derived.Lib.BufferMore
import Derived.Test.YtlcnckbmolefpaaSKa0
section
namespace Go.Proofs.Ytlcnckbmolefpaa.P
open Go.RowKit Go.Proofs.YtlcnckbmolefpaaW.PrintWords Go.Proofs.YtlcnckbmolefpaaW.PrintLast Go.Proofs.YtlcnckbmolefpaaW.PrintMore
attribute [local go_sem] max2_int min2_int max_two min_two max_three min_three max_four min_four   -- for this text's walks alone
set_option linter.unusedVariables false
set_option linter.unusedSimpArgs false
def errW : Option Int → Value
  | none => .nilIface
  | some c => .iface 0 (.int .i64 c)
theorem errW_none : errW none = .nilIface := rfl
theorem errW_some (c : Int) : errW (some c) = .iface 0 (.int .i64 c) := rfl
theorem info3 : (Try.prog.info? 3).map (fun i => (i.zero, i.size, i.bytes)) = some (some (.int .i64 0), 1, 8) := by kernel_rfl
theorem info4 : (Try.prog.info? 4).map (fun i => (i.zero, i.size, i.bytes)) = some (some (.bool false), 1, 1) := by kernel_rfl
theorem info29 : (Try.prog.info? 29).map (fun i => (i.zero, i.size, i.bytes)) = some (some (.int .u64 0), 1, 8) := by kernel_rfl
theorem info38 : (Try.prog.info? 38).map (fun i => (i.zero, i.size, i.bytes)) = some (some (.slice none 0 0), 1, 24) := by kernel_rfl
theorem info127 : (Try.prog.info? 127).map (fun i => (i.zero, i.size, i.bytes)) = some (some (.agg #[(.int .i64 0), (.int .i64 0), (.int .i64 0), (.bool false)]), 4, 32) := by kernel_rfl
theorem info128 : (Try.prog.info? 128).map (fun i => (i.zero, i.size, i.bytes)) = some (some (.agg #[(.int .i64 0), (.int .i64 0), (.int .i64 0), (.bool false)]), 4, 32) := by kernel_rfl
theorem info140 : (Try.prog.info? 140).map (fun i => (i.zero, i.size, i.bytes)) = some (some (.agg #[(.int .i64 0), (.int .u64 0), (.int .i64 0)]), 3, 24) := by kernel_rfl
theorem info143 : (Try.prog.info? 143).map (fun i => (i.zero, i.size, i.bytes)) = some (some (.agg #[(.int .i64 0), (.int .u64 0), (.int .i64 0)]), 3, 24) := by kernel_rfl
-- the values' own types
def rd_L1 (xs : List (List Int)) (i : Int) : (List Int) := xs.getD i.toNat ([] : List Int)
theorem at_L1 {w : World} {A : Option Addr} {n : Nat} {xs : List (List Int)} (h : Kd.C (Kd.slice 3 (Kd.int .i64)) w A n xs) (i : Int) (h0 : 0 ≤ i) (h1 : i < n) : ∃ ad A0 c0, A = some ad ∧ w.cell? (ad.add i.toNat) = some (.slice A0 (rd_L1 xs i).length c0) ∧ (rd_L1 xs i).length ≤ c0 ∧ (Kd.int .i64).C w A0 (rd_L1 xs i).length (rd_L1 xs i) := by
  obtain ⟨ad, c, e, _, hK, hc0⟩ := Kd.C_get h ([] : List Int) i h0 h1
  have hc : ∀ j u, c[j]? = some u → w.cell? (ad.add (i.toNat * 1 + j)) = some u := hc0
  obtain ⟨A0, c0, rfl, l0, g0⟩ := hK
  exact ⟨ad, A0, c0, e, by have hq := hc 0 _ rfl; rwa [Nat.mul_one, Nat.add_zero] at hq, l0, g0⟩
/-! #### struct type 127 -/
structure S127 where
  f0 : Int
  f1 : Int
  f2 : Int
  f3 : Bool
def z127 : S127 := ⟨(0 : Int), (0 : Int), (0 : Int), false⟩
def k127 : Kd S127 := Kd.iso (Kd.pair (Kd.int .i64) (Kd.pair (Kd.int .i64) (Kd.pair (Kd.int .i64) Kd.bool))) (fun x : S127 => (x.f0, x.f1, x.f2, x.f3))
theorem k127_open {w : World} {x : S127} {cs : List Value} (h : k127.K w x cs) : cs = [.int .i64 x.f0, .int .i64 x.f1, .int .i64 x.f2, .bool x.f3] := by
  obtain ⟨_, _, rfl, rfl, ⟨_, _, rfl, rfl, ⟨_, _, rfl, rfl, rfl⟩⟩⟩ := h
  exact rfl
theorem k127_openM {w : World} {base : Nat} {ok : Nat → Prop} {x : S127} {cs : List Value} (h : k127.M w base ok x cs) : cs = [.int .i64 x.f0, .int .i64 x.f1, .int .i64 x.f2, .bool x.f3] := by
  obtain ⟨_, _, rfl, rfl, ⟨_, _, rfl, rfl, ⟨_, _, rfl, rfl, rfl⟩⟩⟩ := h
  exact rfl
theorem k127_mk (w : World) (x : S127)  : k127.K w x [.int .i64 x.f0, .int .i64 x.f1, .int .i64 x.f2, .bool x.f3] := ⟨[.int .i64 x.f0], [.int .i64 x.f1, .int .i64 x.f2, .bool x.f3], rfl, rfl, ⟨[.int .i64 x.f1], [.int .i64 x.f2, .bool x.f3], rfl, rfl, ⟨[.int .i64 x.f2], [.bool x.f3], rfl, rfl, rfl⟩⟩⟩
theorem k127_mkM (w : World) (base : Nat) (ok : Nat → Prop) (x : S127)  : k127.M w base ok x [.int .i64 x.f0, .int .i64 x.f1, .int .i64 x.f2, .bool x.f3] := ⟨[.int .i64 x.f0], [.int .i64 x.f1, .int .i64 x.f2, .bool x.f3], rfl, rfl, ⟨[.int .i64 x.f1], [.int .i64 x.f2, .bool x.f3], rfl, rfl, ⟨[.int .i64 x.f2], [.bool x.f3], rfl, rfl, rfl⟩⟩⟩
def rd_T127 (xs : List S127) (i : Int) : S127 := xs.getD i.toNat z127
theorem at_T127 {w : World} {A : Option Addr} {n : Nat} {xs : List S127} (h : Kd.C k127 w A n xs) (i : Int) (h0 : 0 ≤ i) (h1 : i < n) : ∃ ad , A = some ad ∧ w.cell? (ad.add (i.toNat * 4)) = some (.int .i64 (rd_T127 xs i).f0) ∧ w.cell? ⟨(ad.add (i.toNat * 4)).block, (ad.add (i.toNat * 4)).off + 1, none⟩ = some (.int .i64 (rd_T127 xs i).f1) ∧ w.cell? ⟨(ad.add (i.toNat * 4)).block, (ad.add (i.toNat * 4)).off + 2, none⟩ = some (.int .i64 (rd_T127 xs i).f2) ∧ w.cell? ⟨(ad.add (i.toNat * 4)).block, (ad.add (i.toNat * 4)).off + 3, none⟩ = some (.bool (rd_T127 xs i).f3) := by
  obtain ⟨ad, c, e, _, hK, hc0⟩ := Kd.C_get h z127 i h0 h1
  have hc : ∀ j u, c[j]? = some u → w.cell? (ad.add (i.toNat * 4 + j)) = some u := hc0
  obtain rfl := k127_open hK
  exact ⟨ad, e, hc 0 _ rfl, by rw [← add_field _ _ 1 (by omega)]; exact hc 1 _ rfl, by rw [← add_field _ _ 2 (by omega)]; exact hc 2 _ rfl, by rw [← add_field _ _ 3 (by omega)]; exact hc 3 _ rfl⟩
/-! #### struct type 128 -/
structure S128 where
  f0 : Int
  f1 : Int
  f2 : Int
  f3 : Bool
def z128 : S128 := ⟨(0 : Int), (0 : Int), (0 : Int), false⟩
def k128 : Kd S128 := Kd.iso (Kd.pair (Kd.int .i64) (Kd.pair (Kd.int .i64) (Kd.pair (Kd.int .i64) Kd.bool))) (fun x : S128 => (x.f0, x.f1, x.f2, x.f3))
theorem k128_open {w : World} {x : S128} {cs : List Value} (h : k128.K w x cs) : cs = [.int .i64 x.f0, .int .i64 x.f1, .int .i64 x.f2, .bool x.f3] := by
  obtain ⟨_, _, rfl, rfl, ⟨_, _, rfl, rfl, ⟨_, _, rfl, rfl, rfl⟩⟩⟩ := h
  exact rfl
theorem k128_openM {w : World} {base : Nat} {ok : Nat → Prop} {x : S128} {cs : List Value} (h : k128.M w base ok x cs) : cs = [.int .i64 x.f0, .int .i64 x.f1, .int .i64 x.f2, .bool x.f3] := by
  obtain ⟨_, _, rfl, rfl, ⟨_, _, rfl, rfl, ⟨_, _, rfl, rfl, rfl⟩⟩⟩ := h
  exact rfl
theorem k128_mk (w : World) (x : S128)  : k128.K w x [.int .i64 x.f0, .int .i64 x.f1, .int .i64 x.f2, .bool x.f3] := ⟨[.int .i64 x.f0], [.int .i64 x.f1, .int .i64 x.f2, .bool x.f3], rfl, rfl, ⟨[.int .i64 x.f1], [.int .i64 x.f2, .bool x.f3], rfl, rfl, ⟨[.int .i64 x.f2], [.bool x.f3], rfl, rfl, rfl⟩⟩⟩
theorem k128_mkM (w : World) (base : Nat) (ok : Nat → Prop) (x : S128)  : k128.M w base ok x [.int .i64 x.f0, .int .i64 x.f1, .int .i64 x.f2, .bool x.f3] := ⟨[.int .i64 x.f0], [.int .i64 x.f1, .int .i64 x.f2, .bool x.f3], rfl, rfl, ⟨[.int .i64 x.f1], [.int .i64 x.f2, .bool x.f3], rfl, rfl, ⟨[.int .i64 x.f2], [.bool x.f3], rfl, rfl, rfl⟩⟩⟩
def rd_T128 (xs : List S128) (i : Int) : S128 := xs.getD i.toNat z128
theorem at_T128 {w : World} {A : Option Addr} {n : Nat} {xs : List S128} (h : Kd.C k128 w A n xs) (i : Int) (h0 : 0 ≤ i) (h1 : i < n) : ∃ ad , A = some ad ∧ w.cell? (ad.add (i.toNat * 4)) = some (.int .i64 (rd_T128 xs i).f0) ∧ w.cell? ⟨(ad.add (i.toNat * 4)).block, (ad.add (i.toNat * 4)).off + 1, none⟩ = some (.int .i64 (rd_T128 xs i).f1) ∧ w.cell? ⟨(ad.add (i.toNat * 4)).block, (ad.add (i.toNat * 4)).off + 2, none⟩ = some (.int .i64 (rd_T128 xs i).f2) ∧ w.cell? ⟨(ad.add (i.toNat * 4)).block, (ad.add (i.toNat * 4)).off + 3, none⟩ = some (.bool (rd_T128 xs i).f3) := by
  obtain ⟨ad, c, e, _, hK, hc0⟩ := Kd.C_get h z128 i h0 h1
  have hc : ∀ j u, c[j]? = some u → w.cell? (ad.add (i.toNat * 4 + j)) = some u := hc0
  obtain rfl := k128_open hK
  exact ⟨ad, e, hc 0 _ rfl, by rw [← add_field _ _ 1 (by omega)]; exact hc 1 _ rfl, by rw [← add_field _ _ 2 (by omega)]; exact hc 2 _ rfl, by rw [← add_field _ _ 3 (by omega)]; exact hc 3 _ rfl⟩
def rd_L5 (xs : List (List Bool)) (i : Int) : (List Bool) := xs.getD i.toNat ([] : List Bool)
theorem at_L5 {w : World} {A : Option Addr} {n : Nat} {xs : List (List Bool)} (h : Kd.C (Kd.slice 4 Kd.bool) w A n xs) (i : Int) (h0 : 0 ≤ i) (h1 : i < n) : ∃ ad A0 c0, A = some ad ∧ w.cell? (ad.add i.toNat) = some (.slice A0 (rd_L5 xs i).length c0) ∧ (rd_L5 xs i).length ≤ c0 ∧ Kd.bool.C w A0 (rd_L5 xs i).length (rd_L5 xs i) := by
  obtain ⟨ad, c, e, _, hK, hc0⟩ := Kd.C_get h ([] : List Bool) i h0 h1
  have hc : ∀ j u, c[j]? = some u → w.cell? (ad.add (i.toNat * 1 + j)) = some u := hc0
  obtain ⟨A0, c0, rfl, l0, g0⟩ := hK
  exact ⟨ad, A0, c0, e, by have hq := hc 0 _ rfl; rwa [Nat.mul_one, Nat.add_zero] at hq, l0, g0⟩
def rd_L6 (xs : List (List S128)) (i : Int) : (List S128) := xs.getD i.toNat ([] : List S128)
theorem at_L6 {w : World} {A : Option Addr} {n : Nat} {xs : List (List S128)} (h : Kd.C (Kd.slice 128 k128) w A n xs) (i : Int) (h0 : 0 ≤ i) (h1 : i < n) : ∃ ad A0 c0, A = some ad ∧ w.cell? (ad.add i.toNat) = some (.slice A0 (rd_L6 xs i).length c0) ∧ (rd_L6 xs i).length ≤ c0 ∧ k128.C w A0 (rd_L6 xs i).length (rd_L6 xs i) := by
  obtain ⟨ad, c, e, _, hK, hc0⟩ := Kd.C_get h ([] : List S128) i h0 h1
  have hc : ∀ j u, c[j]? = some u → w.cell? (ad.add (i.toNat * 1 + j)) = some u := hc0
  obtain ⟨A0, c0, rfl, l0, g0⟩ := hK
  exact ⟨ad, A0, c0, e, by have hq := hc 0 _ rfl; rwa [Nat.mul_one, Nat.add_zero] at hq, l0, g0⟩
def rd_L7 (xs : List (List S127)) (i : Int) : (List S127) := xs.getD i.toNat ([] : List S127)
theorem at_L7 {w : World} {A : Option Addr} {n : Nat} {xs : List (List S127)} (h : Kd.C (Kd.slice 127 k127) w A n xs) (i : Int) (h0 : 0 ≤ i) (h1 : i < n) : ∃ ad A0 c0, A = some ad ∧ w.cell? (ad.add i.toNat) = some (.slice A0 (rd_L7 xs i).length c0) ∧ (rd_L7 xs i).length ≤ c0 ∧ k127.C w A0 (rd_L7 xs i).length (rd_L7 xs i) := by
  obtain ⟨ad, c, e, _, hK, hc0⟩ := Kd.C_get h ([] : List S127) i h0 h1
  have hc : ∀ j u, c[j]? = some u → w.cell? (ad.add (i.toNat * 1 + j)) = some u := hc0
  obtain ⟨A0, c0, rfl, l0, g0⟩ := hK
  exact ⟨ad, A0, c0, e, by have hq := hc 0 _ rfl; rwa [Nat.mul_one, Nat.add_zero] at hq, l0, g0⟩
/-! #### struct type 140 -/
structure S140 where
  f0 : Int
  f1 : Int
  f2 : Int
def z140 : S140 := ⟨(0 : Int), (0 : Int), (0 : Int)⟩
def k140 : Kd S140 := Kd.iso (Kd.pair (Kd.int .i64) (Kd.pair (Kd.int .u64) (Kd.int .i64))) (fun x : S140 => (x.f0, x.f1, x.f2))
theorem k140_open {w : World} {x : S140} {cs : List Value} (h : k140.K w x cs) : cs = [.int .i64 x.f0, .int .u64 x.f1, .int .i64 x.f2] := by
  obtain ⟨_, _, rfl, rfl, ⟨_, _, rfl, rfl, rfl⟩⟩ := h
  exact rfl
theorem k140_openM {w : World} {base : Nat} {ok : Nat → Prop} {x : S140} {cs : List Value} (h : k140.M w base ok x cs) : cs = [.int .i64 x.f0, .int .u64 x.f1, .int .i64 x.f2] := by
  obtain ⟨_, _, rfl, rfl, ⟨_, _, rfl, rfl, rfl⟩⟩ := h
  exact rfl
theorem k140_mk (w : World) (x : S140)  : k140.K w x [.int .i64 x.f0, .int .u64 x.f1, .int .i64 x.f2] := ⟨[.int .i64 x.f0], [.int .u64 x.f1, .int .i64 x.f2], rfl, rfl, ⟨[.int .u64 x.f1], [.int .i64 x.f2], rfl, rfl, rfl⟩⟩
theorem k140_mkM (w : World) (base : Nat) (ok : Nat → Prop) (x : S140)  : k140.M w base ok x [.int .i64 x.f0, .int .u64 x.f1, .int .i64 x.f2] := ⟨[.int .i64 x.f0], [.int .u64 x.f1, .int .i64 x.f2], rfl, rfl, ⟨[.int .u64 x.f1], [.int .i64 x.f2], rfl, rfl, rfl⟩⟩
def rd_T140 (xs : List S140) (i : Int) : S140 := xs.getD i.toNat z140
theorem at_T140 {w : World} {A : Option Addr} {n : Nat} {xs : List S140} (h : Kd.C k140 w A n xs) (i : Int) (h0 : 0 ≤ i) (h1 : i < n) : ∃ ad , A = some ad ∧ w.cell? (ad.add (i.toNat * 3)) = some (.int .i64 (rd_T140 xs i).f0) ∧ w.cell? ⟨(ad.add (i.toNat * 3)).block, (ad.add (i.toNat * 3)).off + 1, none⟩ = some (.int .u64 (rd_T140 xs i).f1) ∧ w.cell? ⟨(ad.add (i.toNat * 3)).block, (ad.add (i.toNat * 3)).off + 2, none⟩ = some (.int .i64 (rd_T140 xs i).f2) := by
  obtain ⟨ad, c, e, _, hK, hc0⟩ := Kd.C_get h z140 i h0 h1
  have hc : ∀ j u, c[j]? = some u → w.cell? (ad.add (i.toNat * 3 + j)) = some u := hc0
  obtain rfl := k140_open hK
  exact ⟨ad, e, hc 0 _ rfl, by rw [← add_field _ _ 1 (by omega)]; exact hc 1 _ rfl, by rw [← add_field _ _ 2 (by omega)]; exact hc 2 _ rfl⟩
/-! #### struct type 143 -/
structure S143 where
  f0 : Int
  f1 : Int
  f2 : Int
def z143 : S143 := ⟨(0 : Int), (0 : Int), (0 : Int)⟩
def k143 : Kd S143 := Kd.iso (Kd.pair (Kd.int .i64) (Kd.pair (Kd.int .u64) (Kd.int .i64))) (fun x : S143 => (x.f0, x.f1, x.f2))
theorem k143_open {w : World} {x : S143} {cs : List Value} (h : k143.K w x cs) : cs = [.int .i64 x.f0, .int .u64 x.f1, .int .i64 x.f2] := by
  obtain ⟨_, _, rfl, rfl, ⟨_, _, rfl, rfl, rfl⟩⟩ := h
  exact rfl
theorem k143_openM {w : World} {base : Nat} {ok : Nat → Prop} {x : S143} {cs : List Value} (h : k143.M w base ok x cs) : cs = [.int .i64 x.f0, .int .u64 x.f1, .int .i64 x.f2] := by
  obtain ⟨_, _, rfl, rfl, ⟨_, _, rfl, rfl, rfl⟩⟩ := h
  exact rfl
theorem k143_mk (w : World) (x : S143)  : k143.K w x [.int .i64 x.f0, .int .u64 x.f1, .int .i64 x.f2] := ⟨[.int .i64 x.f0], [.int .u64 x.f1, .int .i64 x.f2], rfl, rfl, ⟨[.int .u64 x.f1], [.int .i64 x.f2], rfl, rfl, rfl⟩⟩
theorem k143_mkM (w : World) (base : Nat) (ok : Nat → Prop) (x : S143)  : k143.M w base ok x [.int .i64 x.f0, .int .u64 x.f1, .int .i64 x.f2] := ⟨[.int .i64 x.f0], [.int .u64 x.f1, .int .i64 x.f2], rfl, rfl, ⟨[.int .u64 x.f1], [.int .i64 x.f2], rfl, rfl, rfl⟩⟩
def rd_T143 (xs : List S143) (i : Int) : S143 := xs.getD i.toNat z143
theorem at_T143 {w : World} {A : Option Addr} {n : Nat} {xs : List S143} (h : Kd.C k143 w A n xs) (i : Int) (h0 : 0 ≤ i) (h1 : i < n) : ∃ ad , A = some ad ∧ w.cell? (ad.add (i.toNat * 3)) = some (.int .i64 (rd_T143 xs i).f0) ∧ w.cell? ⟨(ad.add (i.toNat * 3)).block, (ad.add (i.toNat * 3)).off + 1, none⟩ = some (.int .u64 (rd_T143 xs i).f1) ∧ w.cell? ⟨(ad.add (i.toNat * 3)).block, (ad.add (i.toNat * 3)).off + 2, none⟩ = some (.int .i64 (rd_T143 xs i).f2) := by
  obtain ⟨ad, c, e, _, hK, hc0⟩ := Kd.C_get h z143 i h0 h1
  have hc : ∀ j u, c[j]? = some u → w.cell? (ad.add (i.toNat * 3 + j)) = some u := hc0
  obtain rfl := k143_open hK
  exact ⟨ad, e, hc 0 _ rfl, by rw [← add_field _ _ 1 (by omega)]; exact hc 1 _ rfl, by rw [← add_field _ _ 2 (by omega)]; exact hc 2 _ rfl⟩
def rd_L11 (xs : List (List S140)) (i : Int) : (List S140) := xs.getD i.toNat ([] : List S140)
theorem at_L11 {w : World} {A : Option Addr} {n : Nat} {xs : List (List S140)} (h : Kd.C (Kd.slice 140 k140) w A n xs) (i : Int) (h0 : 0 ≤ i) (h1 : i < n) : ∃ ad A0 c0, A = some ad ∧ w.cell? (ad.add i.toNat) = some (.slice A0 (rd_L11 xs i).length c0) ∧ (rd_L11 xs i).length ≤ c0 ∧ k140.C w A0 (rd_L11 xs i).length (rd_L11 xs i) := by
  obtain ⟨ad, c, e, _, hK, hc0⟩ := Kd.C_get h ([] : List S140) i h0 h1
  have hc : ∀ j u, c[j]? = some u → w.cell? (ad.add (i.toNat * 1 + j)) = some u := hc0
  obtain ⟨A0, c0, rfl, l0, g0⟩ := hK
  exact ⟨ad, A0, c0, e, by have hq := hc 0 _ rfl; rwa [Nat.mul_one, Nat.add_zero] at hq, l0, g0⟩
/-! #### struct type 28 -/
structure S28 where
  f0 : Int
  f1 : Int
def z28 : S28 := ⟨(0 : Int), (0 : Int)⟩
def k28 : Kd S28 := Kd.iso (Kd.pair (Kd.int .i64) (Kd.int .i64)) (fun x : S28 => (x.f0, x.f1))
theorem k28_open {w : World} {x : S28} {cs : List Value} (h : k28.K w x cs) : cs = [.int .i64 x.f0, .int .i64 x.f1] := by
  obtain ⟨_, _, rfl, rfl, rfl⟩ := h
  exact rfl
theorem k28_openM {w : World} {base : Nat} {ok : Nat → Prop} {x : S28} {cs : List Value} (h : k28.M w base ok x cs) : cs = [.int .i64 x.f0, .int .i64 x.f1] := by
  obtain ⟨_, _, rfl, rfl, rfl⟩ := h
  exact rfl
theorem k28_mk (w : World) (x : S28)  : k28.K w x [.int .i64 x.f0, .int .i64 x.f1] := ⟨[.int .i64 x.f0], [.int .i64 x.f1], rfl, rfl, rfl⟩
theorem k28_mkM (w : World) (base : Nat) (ok : Nat → Prop) (x : S28)  : k28.M w base ok x [.int .i64 x.f0, .int .i64 x.f1] := ⟨[.int .i64 x.f0], [.int .i64 x.f1], rfl, rfl, rfl⟩
def rd_T28 (xs : List S28) (i : Int) : S28 := xs.getD i.toNat z28
theorem at_T28 {w : World} {A : Option Addr} {n : Nat} {xs : List S28} (h : Kd.C k28 w A n xs) (i : Int) (h0 : 0 ≤ i) (h1 : i < n) : ∃ ad , A = some ad ∧ w.cell? (ad.add (i.toNat * 2)) = some (.int .i64 (rd_T28 xs i).f0) ∧ w.cell? ⟨(ad.add (i.toNat * 2)).block, (ad.add (i.toNat * 2)).off + 1, none⟩ = some (.int .i64 (rd_T28 xs i).f1) := by
  obtain ⟨ad, c, e, _, hK, hc0⟩ := Kd.C_get h z28 i h0 h1
  have hc : ∀ j u, c[j]? = some u → w.cell? (ad.add (i.toNat * 2 + j)) = some u := hc0
  obtain rfl := k28_open hK
  exact ⟨ad, e, hc 0 _ rfl, by rw [← add_field _ _ 1 (by omega)]; exact hc 1 _ rfl⟩
/-! ### slices_Min_int_int: function 102 -/
def slices_Min_int_int.l0 : Nat → List Int → Int → Int → Option (Int)
  | 0, _, _, _ => none
  | k + 1, x0, x3, x4 => if x4 < (x0.length : Int) then (if 0 ≤ x4 then (slices_Min_int_int.l0 k x0 (mn x3 (rd x0 x4)) (wrap64 (x4 + 1))) else (none)) else (some x3)
def slices_Min_int_int.f (k : Nat) (l0 : List Int) : Option (Int) := if (l0.length : Int) < 1 then (none) else (if 0 < (l0.length : Int) then (slices_Min_int_int.l0 k l0 (rd l0 0) 1) else (none))
set_option maxHeartbeats 8000000 in
set_option maxRecDepth 100000 in
theorem slices_Min_int_int.calls (k : Nat) (A0 : Option Addr) (c0 : Nat) (l0 : List Int) (r : Int) (w : World) (hr0 : Kd.C (Kd.int .i64) w A0 l0.length l0) (hc0 : l0.length ≤ c0) (h : slices_Min_int_int.f k l0 = some r) :
    Calls Try.prog 102 #[.slice A0 l0.length c0] w fun e w' => e = .returned (.int .i64 r) ∧ Below w.heap.size w w' := by
  have HR0 := Aside0.mk hr0
  have HC0 := Aside0.mk hc0
  clear hr0 hc0
  have HB := Aside0.mk (Below.refl w.heap.size w)
  have H : (if (l0.length : Int) < 1 then (none) else (if 0 < (l0.length : Int) then (slices_Min_int_int.l0 k l0 (rd l0 0) 1) else (none))) = some r := h
  clear h
  by_cases c2 : (l0.length : Int) < 1
  · rw [if_pos c2] at H
    exact absurd H (by simp)
  · rw [if_neg c2] at H
    have c2b0 : decide ((l0.length : Int) < 1) = false := decide_eq_false c2
    have c2b1 : decide (l0.length < 1) = false := decide_eq_false (by omega)
    clear c2
    by_cases c3 : 0 < (l0.length : Int)
    · rw [if_pos c3] at H
      have c3b0 : decide (0 < (l0.length : Int)) = true := decide_eq_true c3
      have c3b1 : decide (0 < l0.length) = true := decide_eq_true (by omega)
      clear c3
      have H' := Aside0.mk H
      clear H
      have p332 : 0 ≤ (0 : Int) := (by omega)
      have q332 : 0 < (l0.length : Int) := of_decide_eq_true (by first | (with_reducible assumption) | assumption)
      obtain ⟨ad332, e332, hx332_0⟩ := Kd.at_int HR0.out 0 p332 q332
      cases e332
      have qi332 : (0 < l0.length) = True := eq_true (by omega)
      (try rw [show ((0 : Int)).toNat = 0 from rfl] at hx332_0)
      (try rw [Addr.add_zero'] at hx332_0)
      replace p332 := eq_true p332
      replace q332 := eq_true q332
      go_enter Try.func102, Try.ntmps102
      go_wp2
      go_loopg [3, 4] k (fun kq v3 v4 w' => ∃ (x3_1 : Int) (x4_1 : Int), v3 = .int .i64 x3_1 ∧ v4 = .int .i64 x4_1 ∧ Aside0 (slices_Min_int_int.l0 kq l0 x3_1 x4_1 = some r) ∧ Aside0 (kq ≤ k) ∧ Aside0 (Below w.heap.size w w'))
      case atStart => exact ⟨(rd l0 0), (1), (by first | rfl | (simp; done) | (simp [*]; done)), (by first | rfl | (simp; done) | (simp [*]; done)), H', ⟨Nat.le_refl _⟩, ⟨by repeat (first | (with_reducible first | exact HB.out | apply below_alloc | apply pw_below_drewN | apply below_drew1) | exact HB.out)⟩⟩
      case round =>
        clear H'
        try clear c1
        try clear c2
        try clear c2b0
        try clear c2b1
        try clear p2
        try clear c3
        try clear c3b0
        try clear c3b1
        try clear p3
        try clear q3
        try clear hx3
        try clear qi3
        try clear hx332_0
        try clear p332
        try clear q332
        obtain ⟨x3_1, x4_1, rfl, rfl, HA, HK1, HB⟩ := hrel
        cases gk with
        | zero => exact absurd HA.out (by simp [slices_Min_int_int.l0])
        | succ k1 =>
          have H := HA.out
          clear HA
          simp only [slices_Min_int_int.l0] at H
          by_cases c4 : x4_1 < (l0.length : Int)
          · rw [if_pos c4] at H
            have c4b0 : decide (x4_1 < (l0.length : Int)) = true := decide_eq_true c4
            clear c4
            by_cases c5 : 0 ≤ x4_1
            · rw [if_pos c5] at H
              have c5b0 : decide (0 ≤ x4_1) = true := decide_eq_true c5
              clear c5
              obtain ⟨ji6, hji6⟩ : ∃ j_ : Int, (mn x3_1 (rd l0 x4_1)) = j_ := ⟨_, rfl⟩
              replace H : (slices_Min_int_int.l0 k1 l0 ji6 (wrap64 (x4_1 + 1))) = some r := by first | (rw [hji6] at H; exact H) | (simp only [hji6] at H ⊢; exact H)
              have hji6_ : (if (rd l0 x4_1) < x3_1 then (rd l0 x4_1) else x3_1) = ji6 := hji6
              have H' := Aside0.mk H
              clear H
              have p333 : 0 ≤ (x4_1 : Int) := of_decide_eq_true (by first | (with_reducible assumption) | assumption)
              have q333 : x4_1 < (l0.length : Int) := of_decide_eq_true (by first | (with_reducible assumption) | assumption)
              obtain ⟨ad333, e333, hx333_0⟩ := Kd.at_int HR0.out x4_1 p333 q333
              obtain rfl : ad332 = ad333 := (by injection e333)
              replace hx333_0 := (HB.out.cell (World.block_lt_of_cell? w _ hx333_0)).trans hx333_0
              replace p333 := eq_true p333
              replace q333 := eq_true q333
              go_wp2
              go_roundg k1
              case measure => have := HK1.out; omega
              case rel => exact ⟨(ji6), (wrap64 (x4_1 + 1)), (by first | rfl | (simp; done) | (simp only [← hji6] <;> (first | rfl | simp)) | (simp [*]; done)), (by first | rfl | (simp; done) | (simp [*]; done)), H', ⟨by have := HK1.out; omega⟩, ⟨by repeat (first | (with_reducible first | exact HB.out | apply below_alloc | apply pw_below_drewN | apply below_drew1) | exact HB.out)⟩⟩
            · rw [if_neg c5] at H
              exact absurd H (by simp)
          · rw [if_neg c4] at H
            have c4b0 : decide (x4_1 < (l0.length : Int)) = false := decide_eq_false c4
            clear c4
            obtain rfl := Option.some.inj H
            go_wp2
            go_ret
            exact ⟨by first | rfl | (simp [errW_none, errW_some] <;> rfl) | (simp [*, errW_none, errW_some] <;> rfl), by repeat (first | (with_reducible first | exact HB.out | apply below_alloc | apply pw_below_drewN | apply below_drew1) | exact HB.out)⟩
    · rw [if_neg c3] at H
      exact absurd H (by simp)
/-! ### slices_Max_int_int: function 103 -/
def slices_Max_int_int.l0 : Nat → List Int → Int → Int → Option (Int)
  | 0, _, _, _ => none
  | k + 1, x0, x3, x4 => if x4 < (x0.length : Int) then (if 0 ≤ x4 then (slices_Max_int_int.l0 k x0 (mx x3 (rd x0 x4)) (wrap64 (x4 + 1))) else (none)) else (some x3)
def slices_Max_int_int.f (k : Nat) (l0 : List Int) : Option (Int) := if (l0.length : Int) < 1 then (none) else (if 0 < (l0.length : Int) then (slices_Max_int_int.l0 k l0 (rd l0 0) 1) else (none))
set_option maxHeartbeats 8000000 in
set_option maxRecDepth 100000 in
theorem slices_Max_int_int.calls (k : Nat) (A0 : Option Addr) (c0 : Nat) (l0 : List Int) (r : Int) (w : World) (hr0 : Kd.C (Kd.int .i64) w A0 l0.length l0) (hc0 : l0.length ≤ c0) (h : slices_Max_int_int.f k l0 = some r) :
    Calls Try.prog 103 #[.slice A0 l0.length c0] w fun e w' => e = .returned (.int .i64 r) ∧ Below w.heap.size w w' := by
  have HR0 := Aside0.mk hr0
  have HC0 := Aside0.mk hc0
  clear hr0 hc0
  have HB := Aside0.mk (Below.refl w.heap.size w)
  have H : (if (l0.length : Int) < 1 then (none) else (if 0 < (l0.length : Int) then (slices_Max_int_int.l0 k l0 (rd l0 0) 1) else (none))) = some r := h
  clear h
  by_cases c2 : (l0.length : Int) < 1
  · rw [if_pos c2] at H
    exact absurd H (by simp)
  · rw [if_neg c2] at H
    have c2b0 : decide ((l0.length : Int) < 1) = false := decide_eq_false c2
    have c2b1 : decide (l0.length < 1) = false := decide_eq_false (by omega)
    clear c2
    by_cases c3 : 0 < (l0.length : Int)
    · rw [if_pos c3] at H
      have c3b0 : decide (0 < (l0.length : Int)) = true := decide_eq_true c3
      have c3b1 : decide (0 < l0.length) = true := decide_eq_true (by omega)
      clear c3
      have H' := Aside0.mk H
      clear H
      have p334 : 0 ≤ (0 : Int) := (by omega)
      have q334 : 0 < (l0.length : Int) := of_decide_eq_true (by first | (with_reducible assumption) | assumption)
      obtain ⟨ad334, e334, hx334_0⟩ := Kd.at_int HR0.out 0 p334 q334
      cases e334
      have qi334 : (0 < l0.length) = True := eq_true (by omega)
      (try rw [show ((0 : Int)).toNat = 0 from rfl] at hx334_0)
      (try rw [Addr.add_zero'] at hx334_0)
      replace p334 := eq_true p334
      replace q334 := eq_true q334
      go_enter Try.func103, Try.ntmps103
      go_wp2
      go_loopg [3, 4] k (fun kq v3 v4 w' => ∃ (x3_1 : Int) (x4_1 : Int), v3 = .int .i64 x3_1 ∧ v4 = .int .i64 x4_1 ∧ Aside0 (slices_Max_int_int.l0 kq l0 x3_1 x4_1 = some r) ∧ Aside0 (kq ≤ k) ∧ Aside0 (Below w.heap.size w w'))
      case atStart => exact ⟨(rd l0 0), (1), (by first | rfl | (simp; done) | (simp [*]; done)), (by first | rfl | (simp; done) | (simp [*]; done)), H', ⟨Nat.le_refl _⟩, ⟨by repeat (first | (with_reducible first | exact HB.out | apply below_alloc | apply pw_below_drewN | apply below_drew1) | exact HB.out)⟩⟩
      case round =>
        clear H'
        try clear c1
        try clear c2
        try clear c2b0
        try clear c2b1
        try clear p2
        try clear c3
        try clear c3b0
        try clear c3b1
        try clear p3
        try clear q3
        try clear hx3
        try clear qi3
        try clear hx334_0
        try clear p334
        try clear q334
        obtain ⟨x3_1, x4_1, rfl, rfl, HA, HK1, HB⟩ := hrel
        cases gk with
        | zero => exact absurd HA.out (by simp [slices_Max_int_int.l0])
        | succ k1 =>
          have H := HA.out
          clear HA
          simp only [slices_Max_int_int.l0] at H
          by_cases c4 : x4_1 < (l0.length : Int)
          · rw [if_pos c4] at H
            have c4b0 : decide (x4_1 < (l0.length : Int)) = true := decide_eq_true c4
            clear c4
            by_cases c5 : 0 ≤ x4_1
            · rw [if_pos c5] at H
              have c5b0 : decide (0 ≤ x4_1) = true := decide_eq_true c5
              clear c5
              obtain ⟨ji6, hji6⟩ : ∃ j_ : Int, (mx x3_1 (rd l0 x4_1)) = j_ := ⟨_, rfl⟩
              replace H : (slices_Max_int_int.l0 k1 l0 ji6 (wrap64 (x4_1 + 1))) = some r := by first | (rw [hji6] at H; exact H) | (simp only [hji6] at H ⊢; exact H)
              have hji6_ : (if x3_1 < (rd l0 x4_1) then (rd l0 x4_1) else x3_1) = ji6 := hji6
              have H' := Aside0.mk H
              clear H
              have p335 : 0 ≤ (x4_1 : Int) := of_decide_eq_true (by first | (with_reducible assumption) | assumption)
              have q335 : x4_1 < (l0.length : Int) := of_decide_eq_true (by first | (with_reducible assumption) | assumption)
              obtain ⟨ad335, e335, hx335_0⟩ := Kd.at_int HR0.out x4_1 p335 q335
              obtain rfl : ad334 = ad335 := (by injection e335)
              replace hx335_0 := (HB.out.cell (World.block_lt_of_cell? w _ hx335_0)).trans hx335_0
              replace p335 := eq_true p335
              replace q335 := eq_true q335
              go_wp2
              go_roundg k1
              case measure => have := HK1.out; omega
              case rel => exact ⟨(ji6), (wrap64 (x4_1 + 1)), (by first | rfl | (simp; done) | (simp only [← hji6] <;> (first | rfl | simp)) | (simp [*]; done)), (by first | rfl | (simp; done) | (simp [*]; done)), H', ⟨by have := HK1.out; omega⟩, ⟨by repeat (first | (with_reducible first | exact HB.out | apply below_alloc | apply pw_below_drewN | apply below_drew1) | exact HB.out)⟩⟩
            · rw [if_neg c5] at H
              exact absurd H (by simp)
          · rw [if_neg c4] at H
            have c4b0 : decide (x4_1 < (l0.length : Int)) = false := decide_eq_false c4
            clear c4
            obtain rfl := Option.some.inj H
            go_wp2
            go_ret
            exact ⟨by first | rfl | (simp [errW_none, errW_some] <;> rfl) | (simp [*, errW_none, errW_some] <;> rfl), by repeat (first | (with_reducible first | exact HB.out | apply below_alloc | apply pw_below_drewN | apply below_drew1) | exact HB.out)⟩
    · rw [if_neg c3] at H
      exact absurd H (by simp)
/-! ### marchlandref13_Same: function 73 -/
def marchlandref13_Same.l0 : Nat → List Int → List Int → Int → Option (Bool)
  | 0, _, _, _ => none
  | k + 1, x0, x1, x5 => if x5 < (x0.length : Int) then (if 0 ≤ x5 then (if x5 < (x1.length : Int) then (if (rd x0 x5) = (rd x1 x5) then (marchlandref13_Same.l0 k x0 x1 (wrap64 (x5 + 1))) else (some false)) else (none)) else (none)) else (some true)
def marchlandref13_Same.f (k : Nat) (l0 : List Int) (l1 : List Int) : Option (Bool) := if (l0.length : Int) = (l1.length : Int) then (marchlandref13_Same.l0 k l0 l1 0) else (some false)
set_option maxHeartbeats 8000000 in
set_option maxRecDepth 100000 in
theorem marchlandref13_Same.calls (k : Nat) (A0 : Option Addr) (c0 : Nat) (l0 : List Int) (A1 : Option Addr) (c1 : Nat) (l1 : List Int) (r : Bool) (w : World) (hr0 : Kd.C (Kd.int .u64) w A0 l0.length l0) (hc0 : l0.length ≤ c0) (hr1 : Kd.C (Kd.int .u64) w A1 l1.length l1) (hc1 : l1.length ≤ c1) (h : marchlandref13_Same.f k l0 l1 = some r) :
    Calls Try.prog 73 #[.slice A0 l0.length c0, .slice A1 l1.length c1] w fun e w' => e = .returned (.bool r) ∧ Drawn0 w w' := by
  have HR0 := Aside0.mk hr0
  have HC0 := Aside0.mk hc0
  clear hr0 hc0
  have HR1 := Aside0.mk hr1
  have HC1 := Aside0.mk hc1
  clear hr1 hc1
  have H : (if (l0.length : Int) = (l1.length : Int) then (marchlandref13_Same.l0 k l0 l1 0) else (some false)) = some r := h
  clear h
  by_cases c3 : (l0.length : Int) = (l1.length : Int)
  · rw [if_pos c3] at H
    have c3b0 : ((l0.length : Int) == (l1.length : Int)) = true := beq_iff_eq.mpr c3
    have c3b1 : ((l0.length : Int) != (l1.length : Int)) = false := bne_eq_false_iff_eq.mpr c3
    have c3b2 : (l0.length == l1.length) = true := by first | simpa using c3 | (simp at c3 ⊢; omega)
    clear c3
    have H' := Aside0.mk H
    clear H
    go_enter Try.func73, Try.ntmps73
    go_wp2
    repeat (go_quiet (fail); try go_wp2)
    go_loopg [5] k (fun kq v5 w' => ∃ (x5_1 : Int), v5 = .int .i64 x5_1 ∧ Aside0 (marchlandref13_Same.l0 kq l0 l1 x5_1 = some r) ∧ Aside0 (kq ≤ k) ∧ Drawn0 w w')
    case atStart => exact ⟨(0), (by first | rfl | (simp; done) | (simp [*]; done)), H', ⟨Nat.le_refl _⟩, by repeat (first | exact Drawn0.refl _ | apply Drawn0.step)⟩
    case round =>
      clear H'
      try clear c1
      try clear p2
      try clear c3
      try clear c3b0
      try clear c3b1
      try clear c3b2
      obtain ⟨x5_1, rfl, HA, HK1, ⟨m1, rfl⟩⟩ := hrel
      cases gk with
      | zero => exact absurd HA.out (by simp [marchlandref13_Same.l0])
      | succ k1 =>
        have H := HA.out
        clear HA
        simp only [marchlandref13_Same.l0] at H
        by_cases c4 : x5_1 < (l0.length : Int)
        · rw [if_pos c4] at H
          have c4b0 : decide (x5_1 < (l0.length : Int)) = true := decide_eq_true c4
          clear c4
          by_cases c5 : 0 ≤ x5_1
          · rw [if_pos c5] at H
            have c5b0 : decide (0 ≤ x5_1) = true := decide_eq_true c5
            clear c5
            by_cases c6 : x5_1 < (l1.length : Int)
            · rw [if_pos c6] at H
              have c6b0 : decide (x5_1 < (l1.length : Int)) = true := decide_eq_true c6
              clear c6
              by_cases c7 : (rd l0 x5_1) = (rd l1 x5_1)
              · rw [if_pos c7] at H
                have c7b0 : ((rd l0 x5_1) == (rd l1 x5_1)) = true := beq_iff_eq.mpr c7
                have c7b1 : ((rd l0 x5_1) != (rd l1 x5_1)) = false := bne_eq_false_iff_eq.mpr c7
                clear c7
                have H' := Aside0.mk H
                clear H
                have p336 : 0 ≤ (x5_1 : Int) := of_decide_eq_true (by first | (with_reducible assumption) | assumption)
                have q336 : x5_1 < (l0.length : Int) := of_decide_eq_true (by first | (with_reducible assumption) | assumption)
                obtain ⟨ad336, e336, hx336_0⟩ := Kd.at_int HR0.out x5_1 p336 q336
                cases e336
                replace p336 := eq_true p336
                replace q336 := eq_true q336
                have p337 : 0 ≤ (x5_1 : Int) := of_decide_eq_true (by first | (with_reducible assumption) | assumption)
                have q337 : x5_1 < (l1.length : Int) := of_decide_eq_true (by first | (with_reducible assumption) | assumption)
                obtain ⟨ad337, e337, hx337_0⟩ := Kd.at_int HR1.out x5_1 p337 q337
                cases e337
                replace p337 := eq_true p337
                replace q337 := eq_true q337
                go_wp2
                repeat (go_quiet (fail); try go_wp2)
                go_roundg k1
                case measure => have := HK1.out; omega
                case rel => exact ⟨(wrap64 (x5_1 + 1)), (by first | rfl | (simp; done) | (simp [*]; done)), H', ⟨by have := HK1.out; omega⟩, by repeat (first | exact Drawn0.refl _ | apply Drawn0.step)⟩
              · rw [if_neg c7] at H
                have c7b0 : ((rd l0 x5_1) == (rd l1 x5_1)) = false := beq_eq_false_iff_ne.mpr c7
                have c7b1 : ((rd l0 x5_1) != (rd l1 x5_1)) = true := bne_iff_ne.mpr c7
                obtain rfl := Option.some.inj H
                have p336 : 0 ≤ (x5_1 : Int) := of_decide_eq_true (by first | (with_reducible assumption) | assumption)
                have q336 : x5_1 < (l0.length : Int) := of_decide_eq_true (by first | (with_reducible assumption) | assumption)
                obtain ⟨ad336, e336, hx336_0⟩ := Kd.at_int HR0.out x5_1 p336 q336
                cases e336
                replace p336 := eq_true p336
                replace q336 := eq_true q336
                have p337 : 0 ≤ (x5_1 : Int) := of_decide_eq_true (by first | (with_reducible assumption) | assumption)
                have q337 : x5_1 < (l1.length : Int) := of_decide_eq_true (by first | (with_reducible assumption) | assumption)
                obtain ⟨ad337, e337, hx337_0⟩ := Kd.at_int HR1.out x5_1 p337 q337
                cases e337
                replace p337 := eq_true p337
                replace q337 := eq_true q337
                go_wp2
                repeat (go_quiet (fail); try go_wp2)
                go_ret
                exact ⟨by first | rfl | (simp; done) | (simp [*]; done), by repeat (first | exact Drawn0.refl _ | apply Drawn0.step)⟩
            · rw [if_neg c6] at H
              exact absurd H (by simp)
          · rw [if_neg c5] at H
            exact absurd H (by simp)
        · rw [if_neg c4] at H
          have c4b0 : decide (x5_1 < (l0.length : Int)) = false := decide_eq_false c4
          clear c4
          obtain rfl := Option.some.inj H
          go_wp2
          repeat (go_quiet (fail); try go_wp2)
          go_ret
          exact ⟨by first | rfl | (simp; done) | (simp [*]; done), by repeat (first | exact Drawn0.refl _ | apply Drawn0.step)⟩
  · rw [if_neg c3] at H
    have c3b0 : ((l0.length : Int) == (l1.length : Int)) = false := beq_eq_false_iff_ne.mpr c3
    have c3b1 : ((l0.length : Int) != (l1.length : Int)) = true := bne_iff_ne.mpr c3
    have c3b2 : (l0.length == l1.length) = false := by first | simpa using c3 | (simp at c3 ⊢; omega)
    obtain rfl := Option.some.inj H
    go_enter Try.func73, Try.ntmps73
    go_wp2
    repeat (go_quiet (fail); try go_wp2)
    go_ret
    exact ⟨by first | rfl | (simp; done) | (simp [*]; done), by repeat (first | exact Drawn0.refl _ | apply Drawn0.step)⟩
/-! ### marchlandref13_Fit: function 67 -/
def marchlandref13_Fit.l0 : Nat → List Int → Int → List Int → Int → Option (List Int)
  | 0, _, _, _, _ => none
  | k + 1, x0, x1, x5, x6 => if x6 < x1 then (if x6 < (x0.length : Int) then (if 0 ≤ x6 then (if x6 < (x5.length : Int) then (marchlandref13_Fit.l0 k x0 x1 (x5.set (x6 : Int).toNat (rd x0 x6)) (wrap64 (x6 + 1))) else (none)) else (none)) else (some x5)) else (some x5)
def marchlandref13_Fit.f (k : Nat) (l0 : List Int) (a1 : Int) : Option (List Int) := if 0 ≤ a1 then (if (a1 : Int).toNat ≤ 35184372088832 then (marchlandref13_Fit.l0 k l0 a1 (List.replicate (a1 : Int).toNat 0) 0) else (none)) else (none)
set_option maxHeartbeats 8000000 in
set_option maxRecDepth 100000 in
theorem marchlandref13_Fit.calls (k : Nat) (A0 : Option Addr) (c0 : Nat) (l0 : List Int) (a1 : Int) (r : List Int) (w : World) (hr0 : Kd.C (Kd.int .u64) w A0 l0.length l0) (hc0 : l0.length ≤ c0) (h : marchlandref13_Fit.f k l0 a1 = some r) :
    Calls Try.prog 67 #[.slice A0 l0.length c0, .int .i64 a1] w fun e w' => ∃ v0_ : Value, e = .returned (v0_) ∧ Kd.R (Kd.int .u64) 29 w' w.heap.size (fun _ => True) v0_ r ∧ Below w.heap.size w w' := by
  have HR0 := Aside0.mk hr0
  have HC0 := Aside0.mk hc0
  clear hr0 hc0
  have HB := Aside0.mk (Below.refl w.heap.size w)
  have H : (if 0 ≤ a1 then (if (a1 : Int).toNat ≤ 35184372088832 then (marchlandref13_Fit.l0 k l0 a1 (List.replicate (a1 : Int).toNat 0) 0) else (none)) else (none)) = some r := h
  clear h
  by_cases c3 : 0 ≤ a1
  · rw [if_pos c3] at H
    have c3b0 := eq_true c3
    have c3b1 : decide (0 ≤ a1) = true := decide_eq_true c3
    clear c3
    by_cases c4 : (a1 : Int).toNat ≤ 35184372088832
    · rw [if_pos c4] at H
      have c4b0 := eq_true c4
      have c4b1 : decide ((a1 : Int).toNat ≤ 35184372088832) = true := decide_eq_true c4
      clear c4
      obtain ⟨y338, hy338⟩ : ∃ y_ : List Int, y_ = (List.replicate (a1 : Int).toNat 0) := ⟨_, rfl⟩
      replace H : (marchlandref13_Fit.l0 k l0 a1 y338 0) = some r := by first | (rw [hy338]; with_reducible exact H) | (have H2_ := (Option.bind_some _ _).symm.trans H; rw [hy338]; with_reducible exact H2_) | (have H2_ := (Option.bind_some _ _).symm.trans H; with_reducible exact H2_) | with_reducible exact H | (rw [hy338]; exact H) | exact H
      have Ny338 := Aside0.mk hy338
      clear hy338
      have H' := Aside0.mk H
      clear H
      go_enter Try.func67, Try.ntmps67
      go_wp2_with (first | ((with_reducible refine gate_dst (N := 8) rfl ?_); (try (refine gate_guard (by rfl) ?_; dsimp only)); refine Kd.R_make (Kd.int .u64) _ 29 rfl (N := 8) rfl 44 _ _ rfl a1 rfl rfl Try.underlying44 (.int .u64 0) 8 info29 rfl (by decide) (by omega) 0 (ok := fun _ => True) (okp := fun _ => True) rfl (fun _ hk => hk) trivial (of_decide_eq_true (by first | (with_reducible assumption) | assumption)) (Nat.le_trans (Nat.mul_le_mul_right _ (of_decide_eq_true (by first | (with_reducible assumption) | assumption) : a1.toNat ≤ 35184372088832)) (by omega)) (Below.refl _ _) (Nat.le_refl _) ?_; intro v339 w5 ho6 hb hg_ hnew_; clear hg_ hnew_; (first | rw [← Ny338.out] at ho6 | (simp only [Int.reduceToNat] at ho6; rw [← Ny338.out] at ho6)); have n0_ := Aside0.mk (Kd.R_lower ho6 (below_size (by repeat (first | (with_reducible first | exact HB.out | apply below_alloc | apply pw_below_drewN | apply below_drew1) | exact HB.out)))); have n1_ := Aside0.mk (below_step (by repeat (first | (with_reducible first | exact HB.out | apply below_alloc | apply pw_below_drewN | apply below_drew1) | exact HB.out)) hb); clear HB; have HO340 := n0_; have HB := n1_; clear n0_ n1_; clear hb ho6))
      go_loopg [6] k (fun kq v6 w' => ∃ (x5_1 : List Int) (x6_1 : Int), v6 = .int .i64 x6_1 ∧ Aside0 (marchlandref13_Fit.l0 kq l0 a1 x5_1 x6_1 = some r) ∧ Aside0 (kq ≤ k) ∧ Aside0 (Kd.R (Kd.int .u64) 29 w' w.heap.size (fun _ => True) v339 x5_1) ∧ Aside0 (Below w.heap.size w w'))
      case atStart => exact ⟨(y338), (0), (by first | rfl | (simp; done) | (simp [*]; done)), H', ⟨Nat.le_refl _⟩, ⟨by (with_reducible repeat (first | apply Kd.R_alloc | apply Kd.R_drewN | apply Kd.R_drew)); exact HO340.out⟩, ⟨by repeat (first | (with_reducible first | exact HB.out | apply below_alloc | apply pw_below_drewN | apply below_drew1) | exact HB.out)⟩⟩
      case round =>
        clear H'
        try clear p2
        try clear c3
        try clear c3b0
        try clear c3b1
        try clear c4
        try clear c4b0
        try clear c4b1
        try clear c6
        obtain ⟨x5_1, x6_1, rfl, HA, HK1, HO_5, HB⟩ := hrel
        cases gk with
        | zero => exact absurd HA.out (by simp [marchlandref13_Fit.l0])
        | succ k1 =>
          have H := HA.out
          clear HA
          simp only [marchlandref13_Fit.l0] at H
          by_cases c7 : x6_1 < a1
          · rw [if_pos c7] at H
            have c7b0 : decide (x6_1 < a1) = true := decide_eq_true c7
            clear c7
            by_cases c8 : x6_1 < (l0.length : Int)
            · rw [if_pos c8] at H
              have c8b0 : decide (x6_1 < (l0.length : Int)) = true := decide_eq_true c8
              clear c8
              by_cases c9 : 0 ≤ x6_1
              · rw [if_pos c9] at H
                have c9b0 : decide (0 ≤ x6_1) = true := decide_eq_true c9
                clear c9
                by_cases c10 : x6_1 < (x5_1.length : Int)
                · rw [if_pos c10] at H
                  have c10b0 : decide (x6_1 < (x5_1.length : Int)) = true := decide_eq_true c10
                  clear c10
                  obtain ⟨y342, hy342⟩ : ∃ y_ : List Int, y_ = (x5_1.set (x6_1 : Int).toNat (rd l0 x6_1)) := ⟨_, rfl⟩
                  replace H : (marchlandref13_Fit.l0 k1 l0 a1 y342 (wrap64 (x6_1 + 1))) = some r := by first | (rw [hy342]; with_reducible exact H) | (have H2_ := (Option.bind_some _ _).symm.trans H; rw [hy342]; with_reducible exact H2_) | (have H2_ := (Option.bind_some _ _).symm.trans H; with_reducible exact H2_) | with_reducible exact H | (rw [hy342]; exact H) | exact H
                  have Ny342 := Aside0.mk hy342
                  clear hy342
                  have H' := Aside0.mk H
                  clear H
                  have p341 : 0 ≤ (x6_1 : Int) := of_decide_eq_true (by first | (with_reducible assumption) | assumption)
                  have q341 : x6_1 < (l0.length : Int) := of_decide_eq_true (by first | (with_reducible assumption) | assumption)
                  obtain ⟨ad341, e341, hx341_0⟩ := Kd.at_int HR0.out x6_1 p341 q341
                  cases e341
                  replace hx341_0 := (HB.out.cell (World.block_lt_of_cell? w _ hx341_0)).trans hx341_0
                  replace p341 := eq_true p341
                  replace q341 := eq_true q341
                  have p11 : 0 ≤ (x6_1 : Int) := of_decide_eq_true (by first | (with_reducible assumption) | assumption)
                  have q11 : (x6_1 : Int) < ((x5_1.length : Int) : Int) := of_decide_eq_true (by first | (with_reducible assumption) | assumption)
                  obtain ⟨go11, co11, eo11, gb11, gl11, cl11, HG11⟩ := Kd.R_form HO_5.out (by omega)
                  (first | cases eo11 | (injection eo11 with ea_ en_ ec_; (first | subst ea_ | (injection ea_ with ea_; subst ea_)); subst ec_; clear en_))
                  have GB11 := Aside0.mk gb11
                  have GG11 := Aside0.mk HG11
                  clear gb11 gl11 HG11
                  obtain ⟨hx11_0, hf11_0⟩ := Kd.R_celln 0 HO_5.out (x6_1 : Int) p11 q11
                  replace p11 := eq_true p11
                  replace q11 := eq_true q11
                  have HP12 := Kd.R_putg HO_5.out (x6_1 : Int) (rd l0 x6_1)
                  go_wp2_with (first | ((with_reducible refine gate_store (t := 29) (p := 26) rfl ?_); refine store_event (t := 29) (p := 26) (v := ?vo_w13) (w1 := (wr.setCell ⟨go11, (x6_1 : Int).toNat, none⟩ (.int .u64 (rd l0 x6_1)))) ?hg ?ho ?hn ?hr ?_; (case ho => rfl); (case hg => rfl); (case hn => rfl); (case hr => first | (go_simp; done) | (go_simp; rfl)); intro w13 hw; have hg : wr.grownBy w13 (some go11) := (by rw [hw]; exact HP12.2); have hp_ : Kd.R (Kd.int .u64) 29 w13 w.heap.size (fun _ => True) (.slice (some ⟨go11, 0, none⟩) x5_1.length co11) y342 := (by rw [hw, Ny342.out]; exact HP12.1); clear HP12; have n0_ := Aside0.mk (hp_); have n1_ := Aside0.mk ((by rw [hw]; exact below_set (HB.out) GB11.out : Below w.heap.size w w13)); clear HO_5; clear HB; have HO_5 := n0_; have HB := n1_; clear n0_ n1_; clear hg hw hp_))
                  go_roundg k1
                  case measure => have := HK1.out; omega
                  case rel => exact ⟨(y342), (wrap64 (x6_1 + 1)), (by first | rfl | (simp; done) | (simp [*]; done)), H', ⟨by have := HK1.out; omega⟩, ⟨by (with_reducible repeat (first | apply Kd.R_alloc | apply Kd.R_drewN | apply Kd.R_drew)); exact HO_5.out⟩, ⟨by repeat (first | (with_reducible first | exact HB.out | apply below_alloc | apply pw_below_drewN | apply below_drew1) | exact HB.out)⟩⟩
                · rw [if_neg c10] at H
                  exact absurd H (by simp)
              · rw [if_neg c9] at H
                exact absurd H (by simp)
            · rw [if_neg c8] at H
              have c8b0 : decide (x6_1 < (l0.length : Int)) = false := decide_eq_false c8
              clear c8
              obtain rfl := Option.some.inj H
              go_wp2
              go_ret
              exact ⟨_, by first | rfl | (simp [errW_none, errW_some] <;> rfl) | (simp [*, errW_none, errW_some] <;> rfl), by (with_reducible repeat (first | apply Kd.R_alloc | apply Kd.R_drewN | apply Kd.R_drew)); exact HO_5.out, by repeat (first | (with_reducible first | exact HB.out | apply below_alloc | apply pw_below_drewN | apply below_drew1) | exact HB.out)⟩
          · rw [if_neg c7] at H
            have c7b0 : decide (x6_1 < a1) = false := decide_eq_false c7
            clear c7
            obtain rfl := Option.some.inj H
            go_wp2
            go_ret
            exact ⟨_, by first | rfl | (simp [errW_none, errW_some] <;> rfl) | (simp [*, errW_none, errW_some] <;> rfl), by (with_reducible repeat (first | apply Kd.R_alloc | apply Kd.R_drewN | apply Kd.R_drew)); exact HO_5.out, by repeat (first | (with_reducible first | exact HB.out | apply below_alloc | apply pw_below_drewN | apply below_drew1) | exact HB.out)⟩
    · rw [if_neg c4] at H
      exact absurd H (by simp)
  · rw [if_neg c3] at H
    exact absurd H (by simp)
/-! ### marchlandref13_Some: function 71 -/
def marchlandref13_Some.l0 : Nat → List Int → Int → List Int → Int → Option (List Int)
  | 0, _, _, _, _ => none
  | k + 1, x0, x1, x5, x6 => if x6 < (x0.length : Int) then (if x6 < 12 then (if 0 ≤ x6 then (if (IntKind.u64.wrap (x1)) = 0 then (none) else (if x5.length < 17592186044416 then (marchlandref13_Some.l0 k x0 x1 (x5 ++ [wrap64 (Int.tmod (IntKind.u64.wrap (rd x0 x6)) (IntKind.u64.wrap (x1)))]) (wrap64 (x6 + 1))) else (none))) else (none)) else (some x5)) else (some x5)
def marchlandref13_Some.f (k : Nat) (l0 : List Int) (a1 : Int) : Option (List Int) := marchlandref13_Some.l0 k l0 a1 (([0] : List Int)) 0
set_option maxHeartbeats 8000000 in
set_option maxRecDepth 100000 in
theorem marchlandref13_Some.calls (k : Nat) (A0 : Option Addr) (c0 : Nat) (l0 : List Int) (a1 : Int) (r : List Int) (w : World) (hr0 : Kd.C (Kd.int .i64) w A0 l0.length l0) (hc0 : l0.length ≤ c0) (h : marchlandref13_Some.f k l0 a1 = some r) :
    Calls Try.prog 71 #[.slice A0 l0.length c0, .int .i64 a1] w fun e w' => ∃ v0_ : Value, e = .returned (v0_) ∧ Kd.R (Kd.int .i64) 3 w' w.heap.size (fun _ => True) v0_ r ∧ Below w.heap.size w w' := by
  have HR0 := Aside0.mk hr0
  have HC0 := Aside0.mk hc0
  clear hr0 hc0
  have HB := Aside0.mk (Below.refl w.heap.size w)
  have H : (marchlandref13_Some.l0 k l0 a1 (([0] : List Int)) 0) = some r := h
  clear h
  obtain ⟨y343, hy343⟩ : ∃ y_ : List Int, y_ = (([0] : List Int)) := ⟨_, rfl⟩
  replace H : (marchlandref13_Some.l0 k l0 a1 y343 0) = some r := by first | (rw [hy343]; with_reducible exact H) | (have H2_ := (Option.bind_some _ _).symm.trans H; rw [hy343]; with_reducible exact H2_) | (have H2_ := (Option.bind_some _ _).symm.trans H; with_reducible exact H2_) | with_reducible exact H | (rw [hy343]; exact H) | exact H
  have Ny343 := Aside0.mk hy343
  clear hy343
  have H' := Aside0.mk H
  clear H
  go_enter Try.func71, Try.ntmps71
  go_wp2_with (first | ((with_reducible refine gate_dst (N := 7) rfl ?_); refine Kd.R_lit (Kd.int .i64) _ 3 ?hg (N := 7) ?hd (xs := ([0] : List Int)) (inner := [.int .i64 0]) (ok := fun _ => True) (okp := fun _ => True) ?hr ?hp (fun _ hk => hk) trivial (Below.refl _ _) (Nat.le_refl _) (by simp) ?_; (case hd => rfl); (case hg => rfl); (case hr => first | (go_simp; done) | (go_simp; rfl)); (case hp => exact (Reps.one (show Kd.M (Kd.int .i64) _ _ _ 0 [.int .i64 0] from rfl) (Reps.none _ _))); intro v344 w3 ho4 hb hg_ hnew_; clear hg_ hnew_; (first | rw [← Ny343.out] at ho4 | (simp only [Int.reduceToNat] at ho4; rw [← Ny343.out] at ho4)); have n0_ := Aside0.mk (Kd.R_lower ho4 (below_size (by repeat (first | (with_reducible first | exact HB.out | apply below_alloc | apply pw_below_drewN | apply below_drew1) | exact HB.out)))); have n1_ := Aside0.mk (below_step (by repeat (first | (with_reducible first | exact HB.out | apply below_alloc | apply pw_below_drewN | apply below_drew1) | exact HB.out)) hb); clear HB; have HO345 := n0_; have HB := n1_; clear n0_ n1_; clear hb ho4))
  go_loopg [5, 6] k (fun kq v5 v6 w' => ∃ (x5_1 : List Int) (x6_1 : Int), v6 = .int .i64 x6_1 ∧ Aside0 (marchlandref13_Some.l0 kq l0 a1 x5_1 x6_1 = some r) ∧ Aside0 (kq ≤ k) ∧ Aside0 (Kd.R (Kd.int .i64) 3 w' w.heap.size (fun _ => True) v5 x5_1) ∧ Aside0 (Below w.heap.size w w'))
  case atStart => exact ⟨(y343), (0), (by first | rfl | (simp; done) | (simp [*]; done)), H', ⟨Nat.le_refl _⟩, ⟨by (with_reducible repeat (first | apply Kd.R_alloc | apply Kd.R_drewN | apply Kd.R_drew)); exact HO345.out⟩, ⟨by repeat (first | (with_reducible first | exact HB.out | apply below_alloc | apply pw_below_drewN | apply below_drew1) | exact HB.out)⟩⟩
  case round =>
    clear H'
    try clear p2
    obtain ⟨x5_1, x6_1, rfl, HA, HK1, HO_5, HB⟩ := hrel
    cases gk with
    | zero => exact absurd HA.out (by simp [marchlandref13_Some.l0])
    | succ k1 =>
      have H := HA.out
      clear HA
      simp only [marchlandref13_Some.l0] at H
      by_cases c5 : x6_1 < (l0.length : Int)
      · rw [if_pos c5] at H
        have c5b0 : decide (x6_1 < (l0.length : Int)) = true := decide_eq_true c5
        clear c5
        by_cases c6 : x6_1 < 12
        · rw [if_pos c6] at H
          have c6b0 : decide (x6_1 < 12) = true := decide_eq_true c6
          clear c6
          by_cases c7 : 0 ≤ x6_1
          · rw [if_pos c7] at H
            have c7b0 : decide (0 ≤ x6_1) = true := decide_eq_true c7
            clear c7
            by_cases c8 : (IntKind.u64.wrap (a1)) = 0
            · rw [if_pos c8] at H
              exact absurd H (by simp)
            · rw [if_neg c8] at H
              have c8b0 : ((IntKind.u64.wrap (a1)) == 0) = false := beq_eq_false_iff_ne.mpr c8
              have c8b1 : ((IntKind.u64.wrap (a1)) != 0) = true := bne_iff_ne.mpr c8
              by_cases c9 : x5_1.length < 17592186044416
              · rw [if_pos c9] at H
                have LMc9 := Aside0.mk c9
                clear c9
                obtain ⟨y347, hy347⟩ : ∃ y_ : List Int, y_ = (x5_1 ++ [wrap64 (Int.tmod (IntKind.u64.wrap (rd l0 x6_1)) (IntKind.u64.wrap (a1)))]) := ⟨_, rfl⟩
                replace H : (marchlandref13_Some.l0 k1 l0 a1 y347 (wrap64 (x6_1 + 1))) = some r := by first | (rw [hy347]; with_reducible exact H) | (have H2_ := (Option.bind_some _ _).symm.trans H; rw [hy347]; with_reducible exact H2_) | (have H2_ := (Option.bind_some _ _).symm.trans H; with_reducible exact H2_) | with_reducible exact H | (rw [hy347]; exact H) | exact H
                have Ny347 := Aside0.mk hy347
                clear hy347
                have H' := Aside0.mk H
                clear H
                have p346 : 0 ≤ (x6_1 : Int) := of_decide_eq_true (by first | (with_reducible assumption) | assumption)
                have q346 : x6_1 < (l0.length : Int) := of_decide_eq_true (by first | (with_reducible assumption) | assumption)
                obtain ⟨ad346, e346, hx346_0⟩ := Kd.at_int HR0.out x6_1 p346 q346
                cases e346
                replace hx346_0 := (HB.out.cell (World.block_lt_of_cell? w _ hx346_0)).trans hx346_0
                replace p346 := eq_true p346
                replace q346 := eq_true q346
                go_wp2_with (first | ((with_reducible refine gate_builtin (b := .append) (xs := #[.tmp 18, .tmp 28]) rfl ?_); at_builtin; refine Kd.R_append (Kd.int .i64) (w0 := w) w.heap.size rfl (.tmp 18) (.tmp 28) 25 3 (.int .i64 0) 8 rfl Try.underlying25 info3 rfl (by decide) (by omega) u5 x5_1 (wrap64 (Int.tmod (IntKind.u64.wrap (rd l0 x6_1)) (IntKind.u64.wrap (a1)))) [.int .i64 (wrap64 (Int.tmod (IntKind.u64.wrap (rd l0 x6_1)) (IntKind.u64.wrap (a1))))] (fun _ => True) (fun _ => False) rfl rfl ?aP (fun _ hk => hk.elim) ?aF ?aO ?aB ?aS ?aL ?_; (case aP => exact rfl); (case aB => exact (by repeat (first | (with_reducible first | exact HB.out | apply below_alloc | apply pw_below_drewN | apply below_drew1) | exact HB.out))); (case aF => exact (fun _ _ => trivial)); (case aO => exact (by (with_reducible repeat (first | apply Kd.R_alloc | apply Kd.R_drewN | apply Kd.R_drew)); exact HO_5.out)); (case aS => exact (below_size (by repeat (first | (with_reducible first | exact HB.out | apply below_alloc | apply pw_below_drewN | apply below_drew1) | exact HB.out)))); (case aL => have := LMc9.out; omega); intro v348 w10 ho hb hg hat; rw [← Ny347.out] at ho; have n0_ := Aside0.mk (hb); have n1_ := Aside0.mk (ho); clear HB; clear HO_5; have HB := n0_; have HO349 := n1_; clear n0_ n1_; clear ho hb hg hat))
                go_roundg k1
                case measure => have := HK1.out; omega
                case rel => exact ⟨(y347), (wrap64 (x6_1 + 1)), (by first | rfl | (simp; done) | (simp [*]; done)), H', ⟨by have := HK1.out; omega⟩, ⟨by (with_reducible repeat (first | apply Kd.R_alloc | apply Kd.R_drewN | apply Kd.R_drew)); exact HO349.out⟩, ⟨by repeat (first | (with_reducible first | exact HB.out | apply below_alloc | apply pw_below_drewN | apply below_drew1) | exact HB.out)⟩⟩
              · rw [if_neg c9] at H
                exact absurd H (by simp)
          · rw [if_neg c7] at H
            exact absurd H (by simp)
        · rw [if_neg c6] at H
          have c6b0 : decide (x6_1 < 12) = false := decide_eq_false c6
          clear c6
          obtain rfl := Option.some.inj H
          go_wp2
          go_ret
          exact ⟨_, by first | rfl | (simp [errW_none, errW_some] <;> rfl) | (simp [*, errW_none, errW_some] <;> rfl), by (with_reducible repeat (first | apply Kd.R_alloc | apply Kd.R_drewN | apply Kd.R_drew)); exact HO_5.out, by repeat (first | (with_reducible first | exact HB.out | apply below_alloc | apply pw_below_drewN | apply below_drew1) | exact HB.out)⟩
      · rw [if_neg c5] at H
        have c5b0 : decide (x6_1 < (l0.length : Int)) = false := decide_eq_false c5
        clear c5
        obtain rfl := Option.some.inj H
        go_wp2
        go_ret
        exact ⟨_, by first | rfl | (simp [errW_none, errW_some] <;> rfl) | (simp [*, errW_none, errW_some] <;> rfl), by (with_reducible repeat (first | apply Kd.R_alloc | apply Kd.R_drewN | apply Kd.R_drew)); exact HO_5.out, by repeat (first | (with_reducible first | exact HB.out | apply below_alloc | apply pw_below_drewN | apply below_drew1) | exact HB.out)⟩
end Go.Proofs.Ytlcnckbmolefpaa.P
end
section
set_option linter.unusedVariables false
namespace Go.Proofs.Ytlcnckbmolefpaa.CK
structure Ev where
  who : Int
  kind : Int
  at_ : Int
  ok : Bool
abbrev T := Int → Int
def valid (e : Ev) : Prop := 0 ≤ e.kind ∧ e.kind ≤ 7
instance (e : Ev) : Decidable (valid e) := inferInstanceAs (Decidable (_ ∧ _))
def stores (e : Ev) : Prop := e.kind = 1
instance (e : Ev) : Decidable (stores e) := inferInstanceAs (Decidable (_ = _))
def frees (e : Ev) : Prop := (e.kind = 5 ∨ e.kind = 6) ∧ e.ok = true
instance (e : Ev) : Decidable (frees e) := inferInstanceAs (Decidable (_ ∧ _))
def upd {α : Type} (f : Int → α) (k : Int) (v : α) : Int → α := fun x => if x = k then v else f x
def joinT (a b : T) : T := fun x => max (a x) (b x)
def zeroT : T := fun _ => 0
structure St where
  C : Int → T
  W : Int → T
  L : Int → T
def st0 : St := ⟨fun _ => zeroT, fun _ => zeroT, fun _ => zeroT⟩
def c1 (s : St) (e : Ev) : T := if e.kind = 0 then joinT (s.C e.who) (s.W e.at_) else if e.kind = 4 ∧ e.ok = true then joinT (s.C e.who) (s.L e.at_) else s.C e.who
def c2 (s : St) (e : Ev) : T := upd (c1 s e) e.who (c1 s e e.who + 1)
def stepS (s : St) (e : Ev) : St :=
  if valid e then ⟨upd s.C e.who (c2 s e), if stores e then upd s.W e.at_ (c2 s e) else s.W, if frees e then upd s.L e.at_ (joinT (c2 s e) (s.L e.at_)) else s.L⟩ else s
def outS (s : St) (e : Ev) : Int × T := if valid e then (c2 s e e.who, c2 s e) else (0, zeroT)
section
variable (g : Nat → Ev)
def S : Nat → St
  | 0 => st0
  | n + 1 => stepS (S n) (g n)
def seenAt (n : Nat) : Int × T := outS (S g n) (g n)
def stp (i j : Nat) : Prop := i < j ∧ valid (g i) ∧ valid (g j) ∧ ((g i).who = (g j).who ∨ (g i).at_ = (g j).at_ ∧
  ((stores (g i) ∧ (g j).kind = 0 ∧ ∀ k, i < k → k < j → ¬ (stores (g k) ∧ (g k).at_ = (g i).at_)) ∨ (frees (g i) ∧ (g j).kind = 4 ∧ (g j).ok = true)))
inductive hb : Nat → Nat → Prop
  | one {i j : Nat} : stp g i j → hb i j
  | more {i k j : Nat} : hb i k → stp g k j → hb i j
def cnt : Nat → Int → Int
  | 0, _ => 0
  | n + 1, p => if valid (g n) ∧ (g n).who = p then cnt n p + 1 else cnt n p
variable {g}
theorem cnt_step (n : Nat) (p : Int) : cnt g n p ≤ cnt g (n + 1) p ∧ cnt g (n + 1) p ≤ cnt g n p + 1 := by
  have e : cnt g (n + 1) p = if valid (g n) ∧ (g n).who = p then cnt g n p + 1 else cnt g n p := rfl
  rw [e]; split <;> omega
theorem cnt_self {n : Nat} (h : valid (g n)) : cnt g (n + 1) (g n).who = cnt g n (g n).who + 1 := if_pos ⟨h, rfl⟩
variable (g) in
def own (i : Nat) : Int := cnt g (i + 1) (g i).who
structure Known (n : Nat) (t : T) (K : Nat → Prop) : Prop where
  lo : ∀ q, 0 ≤ t q
  hi : ∀ q, t q ≤ cnt g n q
  iff : ∀ i, i < n → valid (g i) → (own g i ≤ t (g i).who ↔ K i)
theorem Known.congr {n : Nat} {a : T} {A B : Nat → Prop} (h : Known (g := g) n a A) (k : ∀ i, i < n → valid (g i) → (A i ↔ B i)) : Known (g := g) n a B :=
  ⟨h.lo, h.hi, fun i hi hv => (h.iff i hi hv).trans (k i hi hv)⟩
theorem Known.next {n : Nat} {a : T} {A B : Nat → Prop} (h : Known (g := g) n a A) (k : ∀ i, i < n → valid (g i) → (A i ↔ B i)) (hn : ¬ B n) : Known (g := g) (n + 1) a B := by
  refine ⟨h.lo, fun q => Int.le_trans (h.hi q) (cnt_step n q).1, fun i hi hv => ?_⟩
  rcases Nat.lt_or_ge i n with c | c
  · exact (h.iff i c hv).trans (k i c hv)
  · obtain rfl : i = n := by omega
    have := h.hi (g i).who
    have := cnt_self hv
    constructor
    · intro q; unfold own at q; omega
    · intro q; exact absurd q hn
variable (g) in
def KC (n : Nat) (p : Int) (i : Nat) : Prop := ∃ k, k < n ∧ valid (g k) ∧ (g k).who = p ∧ (i = k ∨ hb g i k)
variable (g) in
def KW (n : Nat) (a : Int) (i : Nat) : Prop := ∃ k, k < n ∧ stores (g k) ∧ (g k).at_ = a ∧ (∀ m, k < m → m < n → ¬ (stores (g m) ∧ (g m).at_ = a)) ∧ (i = k ∨ hb g i k)
variable (g) in
def KL (n : Nat) (a : Int) (i : Nat) : Prop := ∃ k, k < n ∧ frees (g k) ∧ (g k).at_ = a ∧ (i = k ∨ hb g i k)
variable (g) in
structure Inv (n : Nat) : Prop where
  C : ∀ p, Known (g := g) n ((S g n).C p) (KC g n p)
  me : ∀ p, (S g n).C p p = cnt g n p
  W : ∀ a, Known (g := g) n ((S g n).W a) (KW g n a)
  L : ∀ a, Known (g := g) n ((S g n).L a) (KL g n a)
variable (g) in
def bef (i j : Nat) : Bool := decide ((seenAt g i).1 > 0) && decide ((seenAt g j).2 (g i).who ≥ (seenAt g i).1)
end
end Go.Proofs.Ytlcnckbmolefpaa.CK
end
section
namespace Go.Proofs.Ytlcnckbmolefpaa.CK
open Go Go.RowKit Go.Maps Go.ChangeMaps Go.MapKept Go.WideShapes
open Go.WideElems (Fit rd rg pl rd_val elemAt rd_key)
set_option linter.unusedVariables false
set_option linter.unusedSimpArgs false
variable {P : Program} {k : TypeId}
theorem keyI_ne {x y : Int} (h : x ≠ y) : (Lit.int .i64 x) ≠ Lit.int .i64 y := fun e => h (by injection e)
theorem pigeon : ∀ (l : List (Lit × DataW Unit)) (K : List Int), l.Pairwise (fun p q => p.1 ≠ q.1) → (∀ p ∈ l, ∃ x, x ∈ K ∧ p.1 = .int .i64 x) → l.length ≤ K.length
  | [], K, _, _ => Nat.zero_le _
  | p :: l, K, hd, hk => by
    obtain ⟨x, hx, hp⟩ := hk p List.mem_cons_self
    have h2 := List.pairwise_cons.1 hd
    have := pigeon l (K.erase x) h2.2 (fun q hq => by
      obtain ⟨y, hy, hqy⟩ := hk q (List.mem_cons_of_mem _ hq)
      have : y ≠ x := fun e => h2.1 q hq (by rw [hp, hqy, e])
      exact ⟨y, (List.mem_erase_of_ne this).2 hy, hqy⟩)
    rw [List.length_erase_of_mem hx] at this
    have : 0 < K.length := List.length_pos_of_mem hx
    simp only [List.length_cons]; omega
theorem own_int_keys (hk : P.underlying k = some (.int .i64)) {R : Value → Option (DataW Unit × List MemPlace)} {w : World} {b n : Nat} {D : DataW Unit} (h : w.ownsMap P k R b n D) :
    ∃ l, D = .map l ∧ l.Pairwise (fun p q => p.1 ≠ q.1) ∧ ∀ p ∈ l, ∃ x, p.1 = .int .i64 x := by
  obtain ⟨es, clock, _, F, _, rfl⟩ := h
  refine ⟨_, rfl, ((sorted_perm _).pairwise_iff (fun {_ _} hne => Ne.symm hne)).2 (Maps.fit_apart (int_keyed hk) F), fun p hp => ?_⟩
  obtain ⟨x, hx, rfl⟩ := List.mem_map.1 (mem_sorted.1 hp)
  obtain ⟨y, hy⟩ := F.reads x hx
  obtain ⟨z, _, hz, _⟩ := Maps.keyOf_int_inv hk (rd_key hy)
  exact ⟨z, by rw [Go.WideElems.rg_of hy]; exact hz⟩
theorem own_tight {R : Value → Option (DataW Unit × List MemPlace)} {w : World} {b n : Nat} {D : DataW Unit} (h : w.ownsMap P k R b n D) : w.ownsMap P k R b (Maps.size D) D := by
  obtain ⟨es, clock, hb, F, _, rfl⟩ := h
  exact ⟨es, clock, hb, F, by simp [Maps.size, length_sorted], rfl⟩
theorem own_few (hk : P.underlying k = some (.int .i64)) {R : Value → Option (DataW Unit × List MemPlace)} {w : World} {b n : Nat} {D : DataW Unit} {K : List Int} (h : w.ownsMap P k R b n D) (hK : ∀ x, Maps.has D (.int .i64 x) = true → x ∈ K) : w.ownsMap P k R b K.length D := by
  obtain ⟨l, rfl, h1, h2⟩ := own_int_keys hk h
  refine (own_tight h).mono ?_
  refine pigeon l K h1 (fun p hp => ?_)
  obtain ⟨x, hx⟩ := h2 p hp
  refine ⟨x, hK x ?_, hx⟩
  exact List.any_eq_true.2 ⟨p, hp, by rw [hx]; exact WideAt.sameKey_self trivial⟩
variable (P k) in
def TD (w : World) (b : Nat) (K : List Int) (t : T) (D : DataW Unit) : Prop := w.ownsMap P k (plainElem P k) b K.length D ∧ (∀ x : Int, D.atKey (.int .i64 x) (.lit (.int .i64 0)) = .lit (.int .i64 (t x))) ∧ ∀ x, Maps.has D (.int .i64 x) = true → x ∈ K
variable (P k) in
def TOwn (w : World) (b : Nat) (K : List Int) (t : T) : Prop := ∃ D, TD P k w b K t D
theorem TD.kept {w w' : World} {row : Option Nat} {b : Nat} {K : List Int} {t : T} {D : DataW Unit} (h : TD P k w b K t D) (hg : w.grownBy w' row) (hne : some b ≠ row) : TD P k w' b K t D := ⟨h.1.kept hg hne, h.2⟩
theorem TOwn.kept {w w' : World} {row : Option Nat} {b : Nat} {K : List Int} {t : T} (h : TOwn P k w b K t) (hg : w.grownBy w' row) (hne : some b ≠ row) : TOwn P k w' b K t := by
  obtain ⟨D, h⟩ := h; exact ⟨D, h.kept hg hne⟩
theorem TOwn.lt {w : World} {b : Nat} {K : List Int} {t : T} (h : TOwn P k w b K t) : b < w.heap.size := by obtain ⟨D, h⟩ := h; exact h.1.lt
theorem TD.more (hk : P.underlying k = some (.int .i64)) {w : World} {b : Nat} {K K' : List Int} {t : T} {D : DataW Unit} (h : TD P k w b K t D) (hK : ∀ x ∈ K, x ∈ K') : TD P k w b K' t D :=
  have h' : ∀ x, Maps.has D (.int .i64 x) = true → x ∈ K' := fun x hx => hK x (h.2.2 x hx)
  ⟨own_few hk h.1 h', h.2.1, h'⟩
theorem TOwn.more (hk : P.underlying k = some (.int .i64)) {w : World} {b : Nat} {K K' : List Int} {t : T} (h : TOwn P k w b K t) (hK : ∀ x ∈ K, x ∈ K') : TOwn P k w b K' t := by
  obtain ⟨D, h⟩ := h; exact ⟨D, h.more hk hK⟩
theorem TOwn.made (w : World) (K : List Int) : TOwn P k (w.alloc (.map #[] 0)) w.heap.size K zeroT :=
  ⟨.map [], (World.ownsMap_made w P k _).mono (Nat.zero_le _), fun x => rfl, fun x hx => by simp [Maps.has] at hx⟩
theorem TD.stored (hk : P.underlying k = some (.int .i64)) {w w' : World} {b n : Nat} {K : List Int} {t : T} {D : DataW Unit} (h : TD P k w b K t D) {x v : Int} (hx : x ∈ K) (h' : w'.ownsMap P k (plainElem P k) b n (D.put (.int .i64 x) (.lit (.int .i64 v)))) : TD P k w' b K (upd t x v) (D.put (.int .i64 x) (.lit (.int .i64 v))) := by
  have hm := h.1.isMap
  have hK : ∀ y, Maps.has (D.put (.int .i64 x) (.lit (.int .i64 v))) (.int .i64 y) = true → y ∈ K := fun y hy => by
    by_cases e : y = x
    · rw [e]; exact hx
    · rw [has_put_other (keyI_ne e)] at hy; exact h.2.2 y hy
  refine ⟨own_few hk h' hK, fun y => ?_, hK⟩
  by_cases e : y = x
  · subst e
    rw [atKey_put_same (k := .int .i64 y) hm trivial]
    show _ = DataW.lit (.int .i64 (if y = y then v else t y))
    rw [if_pos rfl]
  · rw [atKey_put_other (keyI_ne e), h.2.1]
    show _ = DataW.lit (.int .i64 (if y = x then v else t y))
    rw [if_neg e]
def encR : Option Nat → DataW Unit
  | none => .lit (.int .i64 (-1))
  | some b => .lit (.int .i64 b)
def refElem : Value → Option (DataW Unit × List MemPlace)
  | .map r => some (encR r, [])
  | _ => none
variable (P k) in
def OMap (w : World) (b n : Nat) (f : Int → Option Nat) : Prop := ∃ D, w.ownsMap P k refElem b n D ∧ ∀ x : Int, D.atKey (.int .i64 x) (encR none) = encR (f x)
theorem OMap.kept {w w' : World} {row : Option Nat} {b n : Nat} {f : Int → Option Nat} (h : OMap P k w b n f) (hg : w.grownBy w' row) (hne : some b ≠ row) : OMap P k w' b n f := by
  obtain ⟨D, h, hr⟩ := h; exact ⟨D, h.kept hg hne, hr⟩
theorem OMap.lt {w : World} {b n : Nat} {f : Int → Option Nat} (h : OMap P k w b n f) : b < w.heap.size := by obtain ⟨D, h, _⟩ := h; exact h.lt
theorem OMap.mono {w : World} {b n n' : Nat} {f : Int → Option Nat} (h : OMap P k w b n f) (hn : n ≤ n') : OMap P k w b n' f := by obtain ⟨D, h, hr⟩ := h; exact ⟨D, h.mono hn, hr⟩
theorem OMap.made (w : World) : OMap P k (w.alloc (.map #[] 0)) w.heap.size 0 (fun _ => none) := ⟨.map [], World.ownsMap_made w P k _, fun x => rfl⟩
end Go.Proofs.Ytlcnckbmolefpaa.CK
end
section
namespace Go.Proofs.Ytlcnckbmolefpaa.P
open Go.RowKit Go.Proofs.YtlcnckbmolefpaaW.PrintWords Go.Proofs.YtlcnckbmolefpaaW.PrintLast Go.Proofs.YtlcnckbmolefpaaW.PrintMore
attribute [local go_sem] max2_int min2_int max_two min_two max_three min_three max_four min_four   -- for this text's walks alone
set_option linter.unusedVariables false
set_option linter.unusedSimpArgs false
/-! ### pick_Who: function 17 -/
def pick_Who.f (a0 : Int) (a1 : Int) : Option (Int) := if a1 < 1 then (some (-1)) else (if (IntKind.u64.wrap (a1)) = 0 then (none) else (some (wrap64 (Int.tmod (IntKind.u64.wrap (a0)) (IntKind.u64.wrap (a1))))))
set_option maxHeartbeats 8000000 in
set_option maxRecDepth 100000 in
theorem pick_Who.calls (a0 : Int) (a1 : Int) (r : Int) (w : World) (h : pick_Who.f a0 a1 = some r) :
    Calls Try.prog 17 #[.int .i64 a0, .int .i64 a1] w fun e w' => e = .returned (.int .i64 r) ∧ Drawn0 w w' := by
  have H : (if a1 < 1 then (some (-1)) else (if (IntKind.u64.wrap (a1)) = 0 then (none) else (some (wrap64 (Int.tmod (IntKind.u64.wrap (a0)) (IntKind.u64.wrap (a1))))))) = some r := h
  clear h
  by_cases c3 : a1 < 1
  · rw [if_pos c3] at H
    have c3b0 : decide (a1 < 1) = true := decide_eq_true c3
    clear c3
    obtain rfl := Option.some.inj H
    go_enter Try.func17, Try.ntmps17
    go_wp2
    go_ret
    exact ⟨by first | rfl | (simp; done) | (simp [*]; done), by repeat (first | exact Drawn0.refl _ | apply Drawn0.step)⟩
  · rw [if_neg c3] at H
    have c3b0 : decide (a1 < 1) = false := decide_eq_false c3
    clear c3
    by_cases c4 : (IntKind.u64.wrap (a1)) = 0
    · rw [if_pos c4] at H
      exact absurd H (by simp)
    · rw [if_neg c4] at H
      have c4b0 : ((IntKind.u64.wrap (a1)) == 0) = false := beq_eq_false_iff_ne.mpr c4
      have c4b1 : ((IntKind.u64.wrap (a1)) != 0) = true := bne_iff_ne.mpr c4
      obtain rfl := Option.some.inj H
      go_enter Try.func17, Try.ntmps17
      go_wp2
      go_ret
      exact ⟨by first | rfl | (simp; done) | (simp [*]; done), by repeat (first | exact Drawn0.refl _ | apply Drawn0.step)⟩
open Go.RowKit Go.Maps Go.Proofs.YtlcnckbmolefpaaW.PrintWords Go.Proofs.YtlcnckbmolefpaaW.PrintLast Go.Proofs.YtlcnckbmolefpaaW.PrintMore
def whoV (p m : Int) : Int := Int.tmod (IntKind.u64.wrap p) m
theorem u64_pos (p : Int) : 0 ≤ IntKind.u64.wrap p := by simp [IntKind.wrap, IntKind.bits, IntKind.signed]; omega
theorem whoV_nonneg (p : Int) {m : Int} (h : 1 ≤ m) : 0 ≤ whoV p m := Int.tmod_nonneg _ (u64_pos p)
theorem whoV_lt (p : Int) {m : Int} (h : 1 ≤ m) : whoV p m < m := Int.tmod_lt_of_pos _ (by omega)
theorem who_eq (p : Int) {m : Int} (h : 1 ≤ m) (h2 : m ≤ 1000000) : pick_Who.f p m = some (whoV p m) := by
  have e : IntKind.u64.wrap m = m := by simp [IntKind.wrap, IntKind.bits, IntKind.signed]; omega
  have a := whoV_nonneg p h
  have b := whoV_lt p h
  unfold pick_Who.f
  rw [if_neg (by omega), e, if_neg (by omega)]
  show some (wrap64 (whoV p m)) = _
  rw [show wrap64 (whoV p m) = whoV p m by unfold wrap64; omega]
def lastv (L : List Int) (m x : Int) : Nat → Int
  | 0 => -1
  | i + 1 => if whoV (rd L i) m = x then (i : Int) else lastv L m x i
def fairAt (L : List Int) (m win : Int) (i : Nat) : Bool := decide ((i : Int) + 1 < win) || (List.range m.toNat).all fun x => decide (lastv L m x (i + 1) > (i : Int) - win)
def fairB (L : List Int) (m win : Int) : Bool := decide (1 ≤ win) && (List.range L.length).all (fairAt L m win)
def pick_Fair.f (l0 : List Int) (a1 a2 : Int) : Option Bool := if 0 ≤ a1 ∧ l0.length ≤ 1000000 then (if a1 ≤ 1000000 then some (fairB l0 a1 a2) else none) else none
structure MapIs (D : DataW Unit) (m : Int) (f : Int → Int) : Prop where
  isMap : IsMap D
  has : ∀ x : Int, Maps.has D (.int .i64 x) = decide (0 ≤ x ∧ x < m)
  at_ : ∀ x : Int, 0 ≤ x → x < m → ∀ z, D.atKey (.int .i64 x) z = .lit (.int .i64 (f x))
theorem mapIs_nil (f : Int → Int) : MapIs (.map []) 0 f := ⟨⟨[], rfl⟩, fun x => by rw [show Maps.has (.map [] : DataW Unit) (.int .i64 x) = false from rfl]; symm; exact decide_eq_false (by omega), fun x h0 h1 => by omega⟩
theorem key_ne {x y : Int} (h : x ≠ y) : (Lit.int .i64 x) ≠ Lit.int .i64 y := fun e => h (by injection e)
theorem mapIs_more {D : DataW Unit} {m : Int} {f : Int → Int} (h : MapIs D m f) (hm : 0 ≤ m) : MapIs (D.put (.int .i64 m) (.lit (.int .i64 (f m)))) (m + 1) f := by
  refine ⟨h.isMap.put _ _, fun x => ?_, fun x h0 h1 z => ?_⟩
  · by_cases e : x = m
    · subst e; rw [has_put_same (k := .int .i64 x) h.isMap trivial]; symm; exact decide_eq_true (by omega)
    · rw [has_put_other (key_ne e), h.has]; apply decide_eq_decide.2; omega
  · by_cases e : x = m
    · subst e; rw [atKey_put_same (k := .int .i64 x) h.isMap trivial]
    · rw [atKey_put_other (key_ne e)]; exact h.at_ x h0 (by omega) z
theorem mapIs_set {D : DataW Unit} {m : Int} {f g : Int → Int} {y v : Int} (h : MapIs D m f) (h0 : 0 ≤ y) (h1 : y < m) (hg : ∀ x, g x = if y = x then v else f x) : MapIs (D.put (.int .i64 y) (.lit (.int .i64 v))) m g := by
  refine ⟨h.isMap.put _ _, fun x => ?_, fun x a0 a1 z => ?_⟩
  · by_cases e : x = y
    · subst e; rw [has_put_same (k := .int .i64 x) h.isMap trivial]; symm; exact decide_eq_true (by omega)
    · rw [has_put_other (key_ne e), h.has]
  · rw [hg x]
    by_cases e : x = y
    · subst e; rw [atKey_put_same (k := .int .i64 x) h.isMap trivial, if_pos rfl]
    · rw [atKey_put_other (key_ne e), if_neg (fun k => e k.symm)]; exact h.at_ x a0 a1 z
theorem law3 : Keyed Try.prog 3 := int_keyed Try.underlying3
theorem fair_no {L : List Int} {m win : Int} {i : Nat} (hi : i < L.length) (h1 : ¬ (i : Int) + 1 < win) {x : Int} (h2 : 0 ≤ x) (h3 : x < m) (h : lastv L m x (i + 1) ≤ (i : Int) - win) : fairB L m win = false := by
  unfold fairB
  rw [Bool.and_eq_false_iff]
  right
  rw [List.all_eq_false]
  refine ⟨i, List.mem_range.2 hi, ?_⟩
  unfold fairAt
  rw [Bool.not_eq_true, Bool.or_eq_false_iff]
  refine ⟨decide_eq_false h1, List.all_eq_false.2 ⟨x.toNat, List.mem_range.2 (by omega), ?_⟩⟩
  rw [show ((x.toNat : Nat) : Int) = x by omega]
  simp only [decide_eq_true_eq]
  omega
theorem fair_yes {L : List Int} {m win : Int} (hw : 1 ≤ win) (h : ∀ i : Nat, i < L.length → fairAt L m win i = true) : fairB L m win = true := by
  unfold fairB
  rw [Bool.and_eq_true]
  exact ⟨decide_eq_true hw, List.all_eq_true.2 fun i hi => h i (List.mem_range.1 hi)⟩
theorem fairAt_short {L : List Int} {m win : Int} {i : Nat} (h : (i : Int) + 1 < win) : fairAt L m win i = true := by unfold fairAt; rw [decide_eq_true h]; rfl
theorem fairAt_all {L : List Int} {m win : Int} {i : Nat} (h : ∀ x : Int, 0 ≤ x → x < m → lastv L m x (i + 1) > (i : Int) - win) : fairAt L m win i = true := by
  unfold fairAt
  rw [Bool.or_eq_true]
  refine Or.inr (List.all_eq_true.2 fun x hx => ?_)
  have := List.mem_range.1 hx
  exact decide_eq_true (h x (by omega) (by omega))
theorem mapIs_zero {D : DataW Unit} {m : Int} {f g : Int → Int} (h : MapIs D m f) (h0 : ¬ m > 0) : MapIs D m g := ⟨h.isMap, h.has, fun x a b => by omega⟩
theorem mapIs_step {L : List Int} {D : DataW Unit} {m i y : Int} (h : MapIs D m (fun x => lastv L m x i.toNat)) (h0 : 0 ≤ i) (hm : 0 < m) (hy : y = whoV (rd L i) m) : MapIs (D.put (.int .i64 y) (.lit (.int .i64 i))) m (fun x => lastv L m x (i + 1).toNat) := by
  subst hy
  refine mapIs_set h (whoV_nonneg _ (by omega)) (whoV_lt _ (by omega)) (fun x => ?_)
  show lastv L m x (i + 1).toNat = _
  rw [show (i + 1).toNat = i.toNat + 1 by omega, lastv, show ((i.toNat : Nat) : Int) = i by omega]
theorem fair_left {L : List Int} {D : DataW Unit} {m i win x c : Int} {left : Lit → Bool} (hD : MapIs D m (fun x => lastv L m x (i + 1).toNat)) (h : ∀ y : Int, 0 ≤ y → y < m → left (.int .i64 y) = false → lastv L m y (i + 1).toNat > i - win) (hat : ∀ zd, D.atKey (.int .i64 x) zd = .lit (.int .i64 c)) (hc : ¬ c ≤ i - win) :
    ∀ y : Int, 0 ≤ y → y < m → (left (.int .i64 y) && !(Lit.int .i64 y).sameKey (.int .i64 x)) = false → lastv L m y (i + 1).toNat > i - win := by
  intro y h0 h1 hy
  by_cases e : y = x
  · subst e
    have := hD.at_ y h0 h1 .nil
    rw [hat] at this
    injection this with this
    injection this with _ this
    rw [this] at hc
    exact Int.not_le.1 hc
  · rw [sameKey_ne (key_ne e)] at hy
    exact h y h0 h1 (by simpa using hy)
theorem fair_hit {L : List Int} {D : DataW Unit} {m i win x c : Int} (hi0 : 0 ≤ i) (hi : i < L.length) (hw : ¬ i + 1 < win) (hD : MapIs D m (fun x => lastv L m x (i + 1).toNat)) (hat : ∀ zd, D.atKey (.int .i64 x) zd = .lit (.int .i64 c)) (hc : c ≤ i - win) : fairB L m win = false := by
  have hx : 0 ≤ x ∧ x < m := of_decide_eq_true (by rw [← hD.has]; exact has_true_of_atKey hat)
  have e := hD.at_ x hx.1 hx.2 .nil
  rw [hat] at e
  injection e with e
  injection e with _ e
  rw [e] at hc
  have n1 : ((i.toNat : Nat) : Int) = i := by omega
  exact fair_no (i := i.toNat) (by omega) (by omega) hx.1 hx.2 (by rw [show i.toNat + 1 = (i + 1).toNat by omega, n1]; exact hc)
theorem fair_step {L : List Int} {m i win : Int} (hi0 : 0 ≤ i) (h : ∀ j : Nat, (j : Int) < i → fairAt L m win j = true) (hi : fairAt L m win i.toNat = true) : ∀ j : Nat, (j : Int) < i + 1 → fairAt L m win j = true := by
  intro j hj
  by_cases e : (j : Int) < i
  · exact h j e
  · rw [show j = i.toNat by omega]; exact hi
theorem fair_round {L : List Int} {m i win : Int} {left : Lit → Bool} (hi0 : 0 ≤ i) (h : ∀ y : Int, 0 ≤ y → y < m → left (.int .i64 y) = false → lastv L m y (i + 1).toNat > i - win) (hl : ∀ k, left k = false) : fairAt L m win i.toNat = true := by
  refine fairAt_all fun x h0 h1 => ?_
  have := h x h0 h1 (hl _)
  rw [show i.toNat + 1 = (i + 1).toNat by omega, show ((i.toNat : Nat) : Int) = i by omega]
  exact this
set_option maxHeartbeats 1000000 in
set_option maxRecDepth 100000 in
theorem pick_Fair.calls (A0 : Option Addr) (c0 : Nat) (l0 : List Int) (a1 a2 : Int) (r : Bool) (w : World) (hr0 : Kd.C (Kd.int .i64) w A0 l0.length l0) (hc0 : l0.length ≤ c0) (h : pick_Fair.f l0 a1 a2 = some r) :
    Calls Try.prog 22 #[.slice A0 l0.length c0, .int .i64 a1, .int .i64 a2] w fun e w' => e = .returned (.bool r) ∧ Below w.heap.size w w' := by
  unfold pick_Fair.f at h
  by_cases m0 : 0 ≤ a1 ∧ l0.length ≤ 1000000
  · rw [if_pos m0] at h
    obtain ⟨m0, lm⟩ := m0
    by_cases m1 : a1 ≤ 1000000
    · rw [if_pos m1] at h
      obtain rfl := Option.some.inj h
      clear h
      have HR := Aside0.mk hr0
      have hm := hr0.2.1
      clear hr0 hc0
      by_cases hw : a2 < 1
      · have e : fairB l0 a1 a2 = false := by unfold fairB; rw [decide_eq_false (by omega)]; rfl
        have E := Aside0.mk e
        have hwb := decide_eq_true hw
        clear e hw
        go_enter Try.func22, Try.ntmps22
        go_wp2
        go_ret
        exact ⟨by rw [E.out]; rfl, Below.refl _ _⟩
      · have hmm := @run_makeMap Try.prog
        have hw1 : 1 ≤ a2 := by omega
        have hwb := decide_eq_false hw
        have hmx : max a1 0 = a1 := by omega
        clear hw
        go_enter Try.func22, Try.ntmps22
        go_wp2
        go_loopw [18] (fun v18 wr => ∃ (j : Int) (D : DataW Unit), v18 = .int .i64 j ∧ Aside0 (0 ≤ j ∧ j ≤ a1 ∧ MapIs D j (fun _ => -1) ∧ wr.ownsMap Try.prog 3 (plainElem Try.prog 3) w.heap.size j.toNat D ∧ Below w.heap.size w wr)) (fun v18 _ => (a1 - intOf v18).toNat)
        case atStart => exact ⟨0, .map [], rfl, ⟨by omega, m0, mapIs_nil _, World.ownsMap_made _ _ _ _, (Below.refl _ _).alloc (Nat.le_refl _) _⟩⟩
        case round =>
          obtain ⟨j, D, rfl, HJ⟩ := hrel
          have j0 := HJ.out.1
          have j1 := HJ.out.2.1
          by_cases hlt : j < a1
          · have hltb := decide_eq_true hlt
            go_wp2_with (first | (at_mapUpdate; refine wpList_mapUpdate_own _ rfl _ _ _ 125 rfl 3 3 law3 Try.underlying125 _ w.heap.size _ _ rfl HJ.out.2.2.2.1 (by unfold maxLen; omega) _ _ _ rfl rfl (keyOf_int_mk Try.underlying3 (a := j) (WalkArith.wf_i64 (by omega))) _ [] (plainElem_int Try.underlying3 (by decide)) ?_; intro w2 hout2 hg2; go_frame))
            go_roundw
            case rel => exact ⟨j + 1, _, by go_num, ⟨by omega, by omega, mapIs_more HJ.out.2.2.1 j0, by rw [show (j + 1).toNat = j.toNat + 1 by omega]; exact hout2, HJ.out.2.2.2.2.grown hg2 HJ.out.2.2.2.2.size (fun k hk => by cases hk; exact Nat.le_refl _)⟩⟩
            case measure => simp [intOf]; omega
          · have hltb := decide_eq_false hlt
            obtain rfl : j = a1 := by omega
            have HJ2 := Aside0.mk HJ.out.2.2
            clear HJ
            obtain ⟨wo, rfl⟩ : ∃ wo : World, wo = wr := ⟨_, rfl⟩
            go_wp2
            go_loopw [26] (fun v26 wr => ∃ (i : Int) (D : DataW Unit), v26 = .int .i64 i ∧ Aside0 (0 ≤ i ∧ i ≤ l0.length ∧ MapIs D j (fun x => lastv l0 j x i.toNat) ∧ wr.ownsMap Try.prog 3 (plainElem Try.prog 3) w.heap.size (j.toNat + i.toNat) D ∧ Below w.heap.size w wr ∧ ∀ q : Nat, (q : Int) < i → fairAt l0 j a2 q = true)) (fun v26 _ => (l0.length - intOf v26).toNat)
            case atStart => exact ⟨0, D, rfl, ⟨by omega, by omega, HJ2.out.1, HJ2.out.2.1, HJ2.out.2.2, fun q hq => by omega⟩⟩
            case round =>
              obtain ⟨i, D, rfl, HI⟩ := hrel
              have i0 := HI.out.1
              have i1 := HI.out.2.1
              by_cases hlt : i < (l0.length : Int)
              · have hltb := decide_eq_true hlt
                obtain ⟨ad, rfl, hx⟩ := Kd.at_int (Kd.C_below HR.out HI.out.2.2.2.2.1) i i0 hlt
                by_cases hp : j > 0
                · have hpb := decide_eq_true hp
                  have WH := Aside0.mk (who_eq (rd l0 i) (m := j) (by omega) m1)
                  have wn := whoV_nonneg (rd l0 i) (m := j) (by omega)
                  have wl := whoV_lt (rd l0 i) (m := j) (by omega)
                  generalize hy : whoV (rd l0 i) j = y at WH wn wl
                  have HY := Aside0.mk hy
                  clear hy
                  by_cases hs : i + 1 < a2
                  · have hsb := decide_eq_true hs
                    go_wp2_with (first | (go_at_call 17; (with_reducible refine (pick_Who.calls (rd l0 i) j y _ WH.out).mono ?_); rintro e w' ⟨rfl, ⟨nd, rfl⟩⟩) | (at_mapUpdate; refine wpList_mapUpdate_own _ rfl _ _ _ 125 rfl 3 3 law3 Try.underlying125 (plainElem Try.prog 3) w.heap.size (j.toNat + i.toNat) D rfl ?hO (by unfold maxLen; omega) _ _ _ rfl rfl (keyOf_int_mk Try.underlying3 (a := y) (WalkArith.wf_i64 (by omega))) _ [] (plainElem_int Try.underlying3 (a := i) (WalkArith.wf_i64 (by omega))) ?_; (case hO => exact HI.out.2.2.2.1); intro w2 hout2 hg2; go_frame))
                    go_roundw
                    case rel => exact ⟨i + 1, _, by go_num, ⟨by omega, by omega, mapIs_step HI.out.2.2.1 i0 hp HY.out.symm, by rw [show j.toNat + (i + 1).toNat = j.toNat + i.toNat + 1 by omega]; exact hout2, (below_step HI.out.2.2.2.2.1 (Drawn0.below ⟨⟨nd, rfl⟩⟩)).grown hg2 (below_step HI.out.2.2.2.2.1 (Drawn0.below ⟨⟨nd, rfl⟩⟩)).size (fun k hk => by cases hk; exact Nat.le_refl _), fair_step i0 HI.out.2.2.2.2.2 (fairAt_short (by omega))⟩⟩
                    case measure => simp [intOf]; omega
                  · have hsb := decide_eq_false hs
                    go_wp2_with (first | (go_at_call 17; (with_reducible refine (pick_Who.calls (rd l0 i) j y _ WH.out).mono ?_); rintro e w' ⟨rfl, ⟨nd, rfl⟩⟩) | (at_mapUpdate; refine wpList_mapUpdate_own _ rfl _ _ _ 125 rfl 3 3 law3 Try.underlying125 (plainElem Try.prog 3) w.heap.size (j.toNat + i.toNat) D rfl ?hO (by unfold maxLen; omega) _ _ _ rfl rfl (keyOf_int_mk Try.underlying3 (a := y) (WalkArith.wf_i64 (by omega))) _ [] (plainElem_int Try.underlying3 (a := i) (WalkArith.wf_i64 (by omega))) ?_; (case hO => exact HI.out.2.2.2.1); intro w2 hout2 hg2; go_frame) | (at_range; have _t := hout2; refine wpList_range_own _ rfl _ 125 rfl 3 3 law3 Try.underlying125 (plainElem Try.prog 3) w.heap.size (j.toNat + i.toNat + 1) _ rfl hout2 ?_; intro w3 hrg3 hg3 hs3))
                    have HB2 := Aside0.mk ((below_step HI.out.2.2.2.2.1 (Drawn0.below ⟨⟨nd, rfl⟩⟩)).grown hg2 (below_step HI.out.2.2.2.2.1 (Drawn0.below ⟨⟨nd, rfl⟩⟩)).size (fun k hk => by cases hk; exact Nat.le_refl _))
                    have HB3 := Aside0.mk (HB2.out.grown hg3 HB2.out.size (fun k hk => by cases hk))
                    have HM := Aside0.mk (mapIs_step HI.out.2.2.1 i0 hp HY.out.symm)
                    have HRG := Aside0.mk hrg3
                    clear hrg3 hg3 hs3
                    (try go_frame)
                    go_loopw [12] (fun _ wr => Aside0 (∃ (left : Lit → Bool) (cnt : Nat), wr.ranges Try.prog 3 (plainElem Try.prog 3) w.heap.size w2.heap.size (j.toNat + i.toNat + 1) (D.put (.int .i64 y) (.lit (.int .i64 i))) left cnt ∧ Below w.heap.size w wr ∧ ∀ y : Int, 0 ≤ y → y < j → left (.int .i64 y) = false → lastv l0 j y (i + 1).toNat > i - a2)) (fun _ wr => wr.rangeLeft w.heap.size w2.heap.size)
                    case atStart => exact ⟨_, _, HRG.out, HB3.out, fun y h0 h1 h2 => by rw [HM.out.has] at h2; simp at h2; omega⟩
                    case round =>
                      obtain ⟨left, cnt, hrg, hbr, hlf⟩ := hrel.out
                      clear hrel
                      have HLF := Aside0.mk hlf
                      have HBR := Aside0.mk hbr
                      have HQ := Aside0.mk hrg
                      clear hlf hbr hrg
                      go_wp2_with (first | (at_next; refine wpList_next_ranges_ii _ rfl _ rfl 3 3 .i64 .i64 law3 Try.underlying3 Try.underlying3 w.heap.size w2.heap.size (j.toNat + i.toNat + 1) (D.put (.int .i64 y) (.lit (.int .i64 i))) left cnt rfl HQ.out ?_ ?_))
                      · intro _ hl0
                        have HS := Aside0.mk (fair_step i0 HI.out.2.2.2.2.2 (fair_round i0 HLF.out hl0))
                        clear hl0
                        go_wp2
                        go_roundw
                        case rel => exact ⟨i + 1, (D.put (.int .i64 y) (.lit (.int .i64 i))), by go_num, ⟨by omega, by omega, HM.out, by rw [show j.toNat + (i + 1).toNat = j.toNat + i.toNat + 1 by omega]; exact HQ.out.owns, HBR.out, HS.out⟩⟩
                        case measure => simp [intOf]; omega
                      · intro x c w1 cnt1 hwx hwc hlx hat hrg1 hlt1 hg1 hs1 hen
                        have HAT := Aside0.mk hat
                        have HG1 := Aside0.mk hrg1
                        have HLT1 := Aside0.mk hlt1
                        have HB1 := Aside0.mk (HBR.out.grown hg1 HBR.out.size (fun k hk => by cases hk; exact HB2.out.size))
                        clear hat hrg1 hlt1 hg1 hs1 hlx
                        by_cases hc : c ≤ i - a2
                        · have hcb := decide_eq_true hc
                          have HF := Aside0.mk (fair_hit i0 hlt (by omega) HM.out HAT.out hc)
                          go_wp2
                          go_ret
                          exact ⟨by rw [HF.out]; rfl, HB1.out⟩
                        · have hcb := decide_eq_false hc
                          have HN := Aside0.mk (fair_left HM.out HLF.out HAT.out hc)
                          go_wp2
                          go_roundw
                          case rel => exact ⟨⟨_, cnt1, HG1.out, HB1.out, HN.out⟩⟩
                          case measure => rw [HG1.out.left_eq, HQ.out.left_eq]; exact HLT1.out
                · have hpb := decide_eq_false hp
                  by_cases hs : i + 1 < a2
                  · have hsb := decide_eq_true hs
                    go_wp2
                    go_roundw
                    case rel => exact ⟨i + 1, D, by go_num, ⟨by omega, by omega, mapIs_zero HI.out.2.2.1 (by omega), by rw [show j.toNat + (i + 1).toNat = j.toNat + i.toNat + 1 by omega]; exact HI.out.2.2.2.1.mono (Nat.le_succ _), HI.out.2.2.2.2.1, fair_step i0 HI.out.2.2.2.2.2 (fairAt_short (by omega))⟩⟩
                    case measure => simp [intOf]; omega
                  · have hsb := decide_eq_false hs
                    obtain ⟨wi, rfl⟩ : ∃ wi : World, wi = wr := ⟨_, rfl⟩
                    go_wp2_with (first | (at_range; refine wpList_range_own _ rfl _ 125 rfl 3 3 law3 Try.underlying125 (plainElem Try.prog 3) w.heap.size (j.toNat + i.toNat) D rfl HI.out.2.2.2.1 ?_; intro w3 hrg3 hg3 hs3))
                    have HB3 := Aside0.mk (HI.out.2.2.2.2.1.grown hg3 HI.out.2.2.2.2.1.size (fun k hk => by cases hk))
                    have HM := Aside0.mk (mapIs_zero (g := fun x => lastv l0 j x (i + 1).toNat) HI.out.2.2.1 (by omega))
                    have HRG := Aside0.mk hrg3
                    clear hrg3 hg3 hs3
                    (try go_frame)
                    go_loopw [12] (fun _ wr => Aside0 (∃ (left : Lit → Bool) (cnt : Nat), wr.ranges Try.prog 3 (plainElem Try.prog 3) w.heap.size wi.heap.size (j.toNat + i.toNat) D left cnt ∧ Below w.heap.size w wr ∧ ∀ y : Int, 0 ≤ y → y < j → left (.int .i64 y) = false → lastv l0 j y (i + 1).toNat > i - a2)) (fun _ wr => wr.rangeLeft w.heap.size wi.heap.size)
                    case atStart => exact ⟨_, _, HRG.out, HB3.out, fun y h0 h1 h2 => by rw [HM.out.has] at h2; simp at h2; omega⟩
                    case round =>
                      obtain ⟨left, cnt, hrg, hbr, hlf⟩ := hrel.out
                      clear hrel
                      have HLF := Aside0.mk hlf
                      have HBR := Aside0.mk hbr
                      have HQ := Aside0.mk hrg
                      clear hlf hbr hrg
                      go_wp2_with (first | (at_next; refine wpList_next_ranges_ii _ rfl _ rfl 3 3 .i64 .i64 law3 Try.underlying3 Try.underlying3 w.heap.size wi.heap.size (j.toNat + i.toNat) D left cnt rfl HQ.out ?_ ?_))
                      · intro _ hl0
                        have HS := Aside0.mk (fair_step i0 HI.out.2.2.2.2.2 (fair_round i0 HLF.out hl0))
                        clear hl0
                        go_wp2
                        go_roundw
                        case rel => exact ⟨i + 1, D, by go_num, ⟨by omega, by omega, HM.out, by rw [show j.toNat + (i + 1).toNat = j.toNat + i.toNat + 1 by omega]; exact HQ.out.owns.mono (Nat.le_succ _), HBR.out, HS.out⟩⟩
                        case measure => simp [intOf]; omega
                      · intro x c w1 cnt1 hwx hwc hlx hat hrg1 hlt1 hg1 hs1 hen
                        have HAT := Aside0.mk hat
                        have HG1 := Aside0.mk hrg1
                        have HLT1 := Aside0.mk hlt1
                        have HB1 := Aside0.mk (HBR.out.grown hg1 HBR.out.size (fun k hk => by cases hk; exact HI.out.2.2.2.2.1.size))
                        clear hat hrg1 hlt1 hg1 hs1 hlx
                        by_cases hc : c ≤ i - a2
                        · have hcb := decide_eq_true hc
                          have HF := Aside0.mk (fair_hit i0 hlt (by omega) HM.out HAT.out hc)
                          go_wp2
                          go_ret
                          exact ⟨by rw [HF.out]; rfl, HB1.out⟩
                        · have hcb := decide_eq_false hc
                          have HN := Aside0.mk (fair_left HM.out HLF.out HAT.out hc)
                          go_wp2
                          go_roundw
                          case rel => exact ⟨⟨_, cnt1, HG1.out, HB1.out, HN.out⟩⟩
                          case measure => rw [HG1.out.left_eq, HQ.out.left_eq]; exact HLT1.out
              · have hltb := decide_eq_false hlt
                have hfin : fairB l0 j a2 = true := fair_yes hw1 (fun q hq => HI.out.2.2.2.2.2 q (by omega))
                have HF := Aside0.mk hfin
                clear hfin
                go_wp2
                go_ret
                exact ⟨by rw [HF.out]; rfl, HI.out.2.2.2.2.1⟩
    · rw [if_neg m1] at h; cases h
  · rw [if_neg m0] at h; cases h
open Go.RowKit Go.Maps Go.Proofs.Ytlcnckbmolefpaa.CK Go.Proofs.YtlcnckbmolefpaaW.PrintWords Go.Proofs.YtlcnckbmolefpaaW.PrintLast Go.Proofs.YtlcnckbmolefpaaW.PrintMore
attribute [local go_sem] max2_int min2_int max_two min_two
structure MS where
  words : List Int
  boxes : List (List S143)
  latches : List Int
  beds : Int → Option Int
  nb : Nat
  log : List S128
def BedIs (D : DataW Unit) (f : Int → Option Int) : Prop := ∀ x : Int, Maps.has D (.int .i64 x) = (f x).isSome ∧ ∀ v, f x = some v → ∀ z, D.atKey (.int .i64 x) z = .lit (.int .i64 v)
def BedR (w : World) (b n : Nat) (f : Int → Option Int) : Prop := ∃ D, w.ownsMap Try.prog 3 (plainElem Try.prog 3) b n D ∧ BedIs D f
theorem BedR.kept {w w' : World} {row : Option Nat} {b n : Nat} {f : Int → Option Int} (h : BedR w b n f) (hg : w.grownBy w' row) (hne : some b ≠ row) : BedR w' b n f := by
  obtain ⟨D, h, hr⟩ := h; exact ⟨D, h.kept hg hne, hr⟩
theorem BedR.same {w w' : World} {b n : Nat} {f : Int → Option Int} (h : BedR w b n f) (e : w'.heap[b]? = w.heap[b]?) : BedR w' b n f := by
  obtain ⟨D, ⟨es, cl, hb, F, hs, hD⟩, hr⟩ := h
  exact ⟨D, ⟨es, cl, e.trans hb, F, hs, hD⟩, hr⟩
theorem BedR.lt {w : World} {b n : Nat} {f : Int → Option Int} (h : BedR w b n f) : b < w.heap.size := by obtain ⟨D, h, _⟩ := h; exact h.lt
theorem BedR.mono {w : World} {b n n' : Nat} {f : Int → Option Int} (h : BedR w b n f) (hn : n ≤ n') : BedR w b n' f := by obtain ⟨D, h, hr⟩ := h; exact ⟨D, h.mono hn, hr⟩
theorem BedR.made (w : World) : BedR (w.alloc (.map #[] 0)) w.heap.size 0 (fun _ => none) := ⟨.map [], World.ownsMap_made w Try.prog 3 _, fun x => ⟨rfl, fun v h => by cases h⟩⟩
structure MemV (w : World) (base : Nat) (own : Nat → Prop) (g bm : Nat) (vw vb vl vo : Value) (M : MS) : Prop where
  hg : w.heap[g]? = some (.cells #[vw, vb, vl, .map (some bm), vo] 137 (0, 0))
  og : own g
  bg : base ≤ g
  hw : Kd.R (Kd.int .u64) 29 w base own vw M.words
  hb : Kd.R (Kd.slice 143 k143) 57 w base own vb M.boxes
  hl : Kd.R (Kd.int .i64) 3 w base own vl M.latches
  ho : Kd.R k128 128 w base own vo M.log
  om : own bm
  bb : base ≤ bm
  hm : BedR w bm M.nb M.beds
def MemR (w : World) (base : Nat) (own : Nat → Prop) (g : Nat) (M : MS) : Prop := ∃ bm vw vb vl vo, MemV w base own g bm vw vb vl vo M
theorem MemV.step {w w' : World} {base : Nat} {own : Nat → Prop} {g bm : Nat} {vw vb vl vo : Value} {M : MS} (h : MemV w base own g bm vw vb vl vo M) (hm : ∀ k, own k → k < w.heap.size → w'.heap[k]? = w.heap[k]?) : MemV w' base own g bm vw vb vl vo M :=
  ⟨(hm g h.og (blk_lt h.hg)).trans h.hg, h.og, h.bg, Kd.R_step h.hw hm, Kd.R_step h.hb hm, Kd.R_step h.hl hm, Kd.R_step h.ho hm, h.om, h.bb, h.hm.same (hm bm h.om h.hm.lt)⟩
theorem MemR.step {w w' : World} {base : Nat} {own : Nat → Prop} {g : Nat} {M : MS} (h : MemR w base own g M) (hm : ∀ k, own k → k < w.heap.size → w'.heap[k]? = w.heap[k]?) : MemR w' base own g M := by
  obtain ⟨bm, vw, vb, vl, vo, h⟩ := h; exact ⟨bm, vw, vb, vl, vo, h.step hm⟩
theorem MemR.below {w w' : World} {base : Nat} {own : Nat → Prop} {g : Nat} {M : MS} (h : MemR w base own g M) (hb : Below w.heap.size w w') : MemR w' base own g M := h.step (fun k _ hk => hb.block k hk)
theorem MemR.kept {w w' : World} {base : Nat} {own : Nat → Prop} {S : Nat → Prop} {g : Nat} {M : MS} (h : MemR w base own g M) (hk : Kept w w' S) (hne : ∀ k, own k → ¬ S k) : MemR w' base own g M := h.step (fun k ho hlt => hk.2 k hlt (hne k ho))
theorem MemV.mono {w : World} {base : Nat} {own own' : Nat → Prop} {g bm : Nat} {vw vb vl vo : Value} {M : MS} (h : MemV w base own g bm vw vb vl vo M) (hm : ∀ k, own k → own' k) : MemV w base own' g bm vw vb vl vo M :=
  ⟨h.hg, hm _ h.og, h.bg, Kd.R_mono h.hw hm, Kd.R_mono h.hb hm, Kd.R_mono h.hl hm, Kd.R_mono h.ho hm, hm _ h.om, h.bb, h.hm⟩
theorem MemV.bound {w : World} {base : Nat} {own : Nat → Prop} {g bm : Nat} {vw vb vl vo : Value} {M : MS} (h : MemV w base own g bm vw vb vl vo M) : MemV w base (fun k => own k ∧ k < w.heap.size) g bm vw vb vl vo M :=
  ⟨h.hg, ⟨h.og, blk_lt h.hg⟩, h.bg, Kd.R_mono (Kd.R_bound h.hw) (fun k hk => ⟨hk.1, hk.2.2.1⟩), Kd.R_mono (Kd.R_bound h.hb) (fun k hk => ⟨hk.1, hk.2.2.1⟩), Kd.R_mono (Kd.R_bound h.hl) (fun k hk => ⟨hk.1, hk.2.2.1⟩), Kd.R_mono (Kd.R_bound h.ho) (fun k hk => ⟨hk.1, hk.2.2.1⟩), ⟨h.om, h.hm.lt⟩, h.bb, h.hm⟩
theorem MemV.cell {w : World} {base : Nat} {own : Nat → Prop} {g bm : Nat} {vw vb vl vo : Value} {M : MS} (h : MemV w base own g bm vw vb vl vo M) : w.cell? ⟨g, 0, none⟩ = some vw ∧ w.cell? ⟨g, 1, none⟩ = some vb ∧ w.cell? ⟨g, 2, none⟩ = some vl ∧ w.cell? ⟨g, 3, none⟩ = some (.map (some bm)) ∧ w.cell? ⟨g, 4, none⟩ = some vo ∧ w.frozen? ⟨g, 4, none⟩ = false := by
  refine ⟨?_, ?_, ?_, ?_, ?_, blk_frozen h.hg 4⟩ <;> (rw [blk_cell h.hg]; rfl)
theorem Asleep_V (who : Int) (hwho : (Lit.int .i64 who).wf = true) (W : World) {base : Nat} {own : Nat → Prop} {g bm : Nat} {vw vb vl vo : Value} {M : MS} (h : MemV W base own g bm vw vb vl vo M) : Calls Try.prog 44 #[.pointer (some ⟨g, 0, none⟩), .int .i64 who] W fun e w' => e = .returned (.bool (M.beds who).isSome) ∧ w' = W := by
  obtain ⟨-, -, -, hx3, -, -⟩ := h.cell
  obtain ⟨D, hD, hB⟩ := h.hm
  have HD := Aside0.mk hD
  have HB := Aside0.mk hB
  have HW := Aside0.mk hwho
  clear hD hB hwho h
  go_enter Try.func44, Try.ntmps44
  go_wp2_with (first | (at_lookup; refine wpList_lookup_own_ok_int _ rfl _ _ 125 rfl 3 3 .i64 law3 Try.underlying125 Try.underlying3 (Try.zeroValue3 _) bm _ D rfl HD.out _ _ rfl (keyOf_int_mk Try.underlying3 HW.out) ?_; intro c hat hwc; clear hat hwc))
  go_ret
  exact ⟨congrArg (fun b => Ending.returned (.bool b)) (HB.out who).1, rfl⟩
def MS.fits (M : MS) (who at_ n : Int) : Bool := decide (0 ≤ who) && decide (0 ≤ at_) && decide (at_ < n) && !(M.beds who).isSome
theorem fits_V (who at_ n : Int) (hwho : (Lit.int .i64 who).wf = true) (W : World) {base : Nat} {own : Nat → Prop} {g bm : Nat} {vw vb vl vo : Value} {M : MS} (h : MemV W base own g bm vw vb vl vo M) : Calls Try.prog 86 #[.pointer (some ⟨g, 0, none⟩), .int .i64 who, .int .i64 at_, .int .i64 n] W fun e w' => e = .returned (.bool (M.fits who at_ n)) ∧ w' = W := by
  have H := Aside0.mk h
  have HW := Aside0.mk hwho
  clear h hwho
  go_enter Try.func86, Try.ntmps86
  by_cases h1 : 0 ≤ who
  · by_cases h2 : 0 ≤ at_
    · by_cases h3 : at_ < n
      · have d1 := decide_eq_true h1
        have d2 := decide_eq_true h2
        have d3 := decide_eq_true h3
        go_wp2_with (first | (go_at_call 44; (with_reducible refine (Asleep_V who HW.out W H.out).mono ?_); rintro e w1 ⟨rfl, rfl⟩))
        go_ret
        exact ⟨by simp [MS.fits, h1, h2, h3], rfl⟩
      · have d1 := decide_eq_true h1
        have d2 := decide_eq_true h2
        have d3 := decide_eq_false h3
        go_wp2
        go_ret
        exact ⟨by rw [MS.fits, d3]; simp, rfl⟩
    · have d1 := decide_eq_true h1
      have d2 := decide_eq_false h2
      go_wp2
      go_ret
      exact ⟨by rw [MS.fits, d2]; simp, rfl⟩
  · have d1 := decide_eq_false h1
    go_wp2
    go_ret
    exact ⟨by rw [MS.fits, d1]; simp, rfl⟩
theorem Time_V (W : World) {base : Nat} {own : Nat → Prop} {g bm : Nat} {vw vb vl vo : Value} {M : MS} (h : MemV W base own g bm vw vb vl vo M) : Calls Try.prog 43 #[.pointer (some ⟨g, 0, none⟩)] W fun e w' => e = .returned (.int .i64 (M.log.length : Int)) ∧ w' = W := by
  obtain ⟨-, -, -, -, hx4, -⟩ := h.cell
  obtain ⟨A, c, rfl⟩ := Kd.R_slice h.ho
  clear h
  go_enter Try.func43, Try.ntmps43
  go_wp2
  go_ret
  exact ⟨rfl, rfl⟩
theorem R_any {α : Type} {d : Kd α} {e : Nat} {w : World} {base : Nat} {ok : Nat → Prop} {v : Value} {xs : List α} (h : Kd.R d e w base ok v xs) : ∃ A n c, v = .slice A n c := by
  obtain ⟨A, c, e⟩ := Kd.R_slice h
  exact ⟨A, _, c, e⟩
section
variable {w w1 : World} {base : Nat} {own : Nat → Prop} {g bm : Nat} {vw vb vl vo : Value} {M : MS}
theorem MemV.rest {row : Option Nat} {e : Nat} (h : MemV w base own g bm vw vb vl vo M) (hty : ∀ k, row = some k → ∃ cells, w.heap[k]? = some (.cells cells e (0, 0))) (hg : w.grownBy w1 row) :
    (e ≠ 137 → w1.heap[g]? = some (.cells #[vw, vb, vl, .map (some bm), vo] 137 (0, 0))) ∧ (e ≠ 29 → Kd.R (Kd.int .u64) 29 w1 base own vw M.words) ∧ (e ≠ 57 → e ≠ 143 → Kd.R (Kd.slice 143 k143) 57 w1 base own vb M.boxes) ∧ (e ≠ 3 → Kd.R (Kd.int .i64) 3 w1 base own vl M.latches) ∧ (e ≠ 128 → Kd.R k128 128 w1 base own vo M.log) ∧ BedR w1 bm M.nb M.beds := by
  have key : ∀ {α : Type} {d : Kd α} {q : Nat} {u : Value} {xs : List α}, Kd.R d q w base own u xs → (∀ t, t ∈ q :: d.E → t ≠ e) → Kd.R d q w1 base own u xs := by
    intro α d q u xs hR ht
    refine Kd.R_mono (Kd.R_step (Kd.R_bound hR) (fun k hk hlt => hg.block k hlt (fun hr => ?_))) (fun k hk => hk.1)
    obtain ⟨cells, hc⟩ := hty k hr.symm
    obtain ⟨t, hq, cells', hc'⟩ := hk.2.2.2
    rw [hc] at hc'
    injection hc' with hc'
    injection hc' with _ h2
    exact ht t hq h2.symm
  refine ⟨fun he => blk_grown h.hg hg (fun hr => ?_), fun he => key h.hw ?_, fun he he2 => key h.hb ?_, fun he => key h.hl ?_, fun he => key h.ho ?_, h.hm.kept hg (fun hr => ?_)⟩
  · obtain ⟨cells, hc⟩ := hty g hr.symm
    rw [h.hg] at hc
    injection hc with hc
    injection hc with _ h2
    exact he h2.symm
  · intro t ht; cases ht with
    | head => exact fun e2 => he e2.symm
    | tail _ ht => cases ht
  · intro t ht; cases ht with
    | head => exact fun e2 => he e2.symm
    | tail _ ht => cases ht with
      | head => exact fun e2 => he2 e2.symm
      | tail _ ht => cases ht
  · intro t ht; cases ht with
    | head => exact fun e2 => he e2.symm
    | tail _ ht => cases ht
  · intro t ht; cases ht with
    | head => exact fun e2 => he e2.symm
    | tail _ ht => cases ht
  · obtain ⟨cells, hc⟩ := hty bm hr.symm
    obtain ⟨D, ⟨es, cl, hb, _⟩, _⟩ := h.hm
    rw [hb] at hc
    cases hc
theorem MemV.put_w {ws : List Int} (h : MemV w base own g bm vw vb vl vo M) (hw : Kd.R (Kd.int .u64) 29 w1 base own vw ws) (hg : w.grownBy w1 vw.ownBlock) : MemV w1 base own g bm vw vb vl vo { M with words := ws } := by
  obtain ⟨h1, h2, h3, h4, h5, h6⟩ := h.rest (fun k hk => Kd.R_typed h.hw k hk) hg
  exact ⟨h1 (by decide), h.og, h.bg, hw, h3 (by decide) (by decide), h4 (by decide), h5 (by decide), h.om, h.bb, h6⟩
theorem MemV.put_l {ls : List Int} (h : MemV w base own g bm vw vb vl vo M) (hl : Kd.R (Kd.int .i64) 3 w1 base own vl ls) (hg : w.grownBy w1 vl.ownBlock) : MemV w1 base own g bm vw vb vl vo { M with latches := ls } := by
  obtain ⟨h1, h2, h3, h4, h5, h6⟩ := h.rest (fun k hk => Kd.R_typed h.hl k hk) hg
  exact ⟨h1 (by decide), h.og, h.bg, h2 (by decide), h3 (by decide) (by decide), hl, h5 (by decide), h.om, h.bb, h6⟩
theorem MemV.put_o {vo' : Value} {os : List S128} (h : MemV w base own g bm vw vb vl vo M) (ho : Kd.R k128 128 w1 base own vo' os) (hg : w.grownBy w1 vo.ownBlock) : MemV (w1.setCell ⟨g, 4, none⟩ vo') base own g bm vw vb vl vo' { M with log := os } := by
  obtain ⟨h1, h2, h3, h4, h5, h6⟩ := h.rest (fun k hk => Kd.R_typed h.ho k hk) hg
  have hb := h1 (by decide)
  refine ⟨blk_put hb 4 _ rfl, h.og, h.bg, Kd.R_set (h2 (by decide)) hb ?_ 4 _, Kd.R_set (h3 (by decide) (by decide)) hb ?_ 4 _, Kd.R_set (h4 (by decide)) hb ?_ 4 _, Kd.R_set ho hb ?_ 4 _, h.om, h.bb, h6.same (Below.heap_setCell w1 ⟨g, 4, none⟩ _ bm (fun e => ?_))⟩
  · intro t ht; cases ht with
    | head => decide
    | tail _ ht => cases ht
  · intro t ht; cases ht with
    | head => decide
    | tail _ ht => cases ht with
      | head => decide
      | tail _ ht => cases ht
  · intro t ht; cases ht with
    | head => decide
    | tail _ ht => cases ht
  · intro t ht; cases ht with
    | head => decide
    | tail _ ht => cases ht
  · obtain ⟨D, ⟨es, cl, hb2, _⟩, _⟩ := h6
    rw [e] at hb2
    rw [hb] at hb2
    cases hb2
end
def MemTo (W w' : World) (base : Nat) (own : Nat → Prop) (g bm : Nat) (vw vb vl : Value) (M : MS) : Prop := ∃ vo, MemV w' base own g bm vw vb vl vo M ∧ Kept W w' own ∧ Below base W w'
def MS.note (M : MS) (who kind at_ : Int) (ok : Bool) : MS := { M with log := M.log ++ [⟨who, kind, at_, ok⟩] }
set_option maxRecDepth 100000 in
set_option maxHeartbeats 1000000 in
theorem note_V (who kind at_ : Int) (ok : Bool) (W : World) {base : Nat} {own : Nat → Prop} {g bm : Nat} {vw vb vl vo : Value} {M : MS} (h : MemV W base own g bm vw vb vl vo M) (hf : ∀ k, W.heap.size ≤ k → own k) (hlog : M.log.length ≤ 1000000) :
    Calls Try.prog 87 #[.pointer (some ⟨g, 0, none⟩), .int .i64 who, .int .i64 kind, .int .i64 at_, .bool ok] W fun e w' => e = .returned (.tuple #[]) ∧ MemTo W w' base own g bm vw vb vl (M.note who kind at_ ok) := by
  obtain ⟨-, -, -, -, hx4, hz4⟩ := h.cell
  have hbase : base ≤ W.heap.size := Nat.le_trans h.bg (Nat.le_of_lt (blk_lt h.hg))
  have hne : some g ≠ vo.ownBlock := Kd.R_ne h.ho h.hg (by decide)
  have H := Aside0.mk h
  have HF := Aside0.mk hf
  have HB := Aside0.mk hbase
  have HN := Aside0.mk hne
  have HL := Aside0.mk hlog
  clear h hf hbase hne hlog hz4
  go_enter Try.func87, Try.ntmps87
  go_wp2_with (at_builtin; (refine Kd.R_append k128 (w0 := W) base rfl (.tmp 14) (.tmp 20) 33 128 (.agg #[(.int .i64 0), (.int .i64 0), (.int .i64 0), (.bool false)]) 32 rfl Try.underlying33 info128 rfl (by decide) (by omega) vo M.log (⟨who, kind, at_, ok⟩ : S128) [.int .i64 who, .int .i64 kind, .int .i64 at_, .bool ok] own (fun _ => False) rfl rfl (k128_mkM _ _ _ (⟨who, kind, at_, ok⟩ : S128)) (fun _ hk => hk.elim) HF.out H.out.ho (Below.refl _ _) HB.out (by have := HL.out; omega) ?_; intro v1 w1 ho1 hb1 hg1 hat1; obtain ⟨A1, n1, c1, rfl⟩ := R_any ho1; have hg2 := blk_grown H.out.hg hg1 HN.out; have hx : w1.cell? ⟨g, 4, none⟩ = some vo := (blk_cell hg2 4).trans rfl; have hz := blk_frozen hg2 4; have HG1 := Aside0.mk hg1; have HO1 := Aside0.mk ho1; have HB1 := Aside0.mk hb1; clear hx4 hg2 hg1 ho1 hb1 hat1))
  ((try simp only [Exit.inBlock, Exit.then]); first | refine bodyPost_ret (results_none rfl _ _ _) rfl ?_ | refine bodyPost_end (results_none rfl _ _ _) rfl ?_)
  refine ⟨rfl, _, H.out.put_o HO1.out HG1.out, ((Kept.refl W own).of_grown HG1.out (fun k hk => .inl (H.out.ho.1 k hk))).setCell (.inl H.out.og) _, HB1.out.setCell H.out.bg _⟩
theorem MemTo.of {W : World} {base : Nat} {own : Nat → Prop} {g bm : Nat} {vw vb vl vo : Value} {M : MS} (h : MemV W base own g bm vw vb vl vo M) : MemTo W W base own g bm vw vb vl M := ⟨vo, h, Kept.refl _ _, Below.refl _ _⟩
theorem fits_at {M : MS} {who at_ n : Int} (h : M.fits who at_ n = true) : 0 ≤ who ∧ 0 ≤ at_ ∧ at_ < n ∧ (M.beds who).isSome = false := by
  unfold MS.fits at h
  simp only [Bool.and_eq_true, decide_eq_true_eq, Bool.not_eq_true'] at h
  exact ⟨h.1.1.1, h.1.1.2, h.1.2, h.2⟩
def MS.store (M : MS) (who at_ v : Int) : MS := if M.fits who at_ (M.words.length : Int) = true then { M.note who 1 at_ true with words := M.words.set at_.toNat v } else M
set_option maxRecDepth 100000 in
set_option maxHeartbeats 1000000 in
theorem Store_V (who at_ v : Int) (hwho : (Lit.int .i64 who).wf = true) (W : World) {base : Nat} {own : Nat → Prop} {g bm : Nat} {vw vb vl vo : Value} {M : MS} (h : MemV W base own g bm vw vb vl vo M) (hf : ∀ k, W.heap.size ≤ k → own k) (hlog : M.log.length ≤ 1000000) :
    Calls Try.prog 32 #[.pointer (some ⟨g, 0, none⟩), .int .i64 who, .int .i64 at_, .int .u64 v] W fun e w' => e = .returned (.tuple #[]) ∧ MemTo W w' base own g bm vw vb vl (M.store who at_ v) := by
  obtain ⟨hx0, -, -, -, -, -⟩ := h.cell
  cases hq : M.fits who at_ (M.words.length : Int)
  · have e0 : M.store who at_ v = M := by unfold MS.store; rw [hq]; rfl
    rw [e0]
    obtain ⟨A, c, rfl⟩ := Kd.R_slice h.hw
    have H := Aside0.mk h
    have HW := Aside0.mk hwho
    clear h hf hlog hwho e0
    go_enter Try.func32, Try.ntmps32
    go_wp2_with (first | (go_at_call 86; (with_reducible refine (fits_V who at_ _ HW.out W H.out).mono ?_); rintro e w1 ⟨rfl, rfl⟩))
    ((try simp only [Exit.inBlock, Exit.then]); first | refine bodyPost_ret (results_none rfl _ _ _) rfl ?_ | refine bodyPost_end (results_none rfl _ _ _) rfl ?_)
    exact ⟨rfl, MemTo.of H.out⟩
  · obtain ⟨q0, q1, q2, -⟩ := fits_at hq
    have e0 : M.store who at_ v = { M.note who 1 at_ true with words := M.words.set at_.toNat v } := by unfold MS.store; rw [hq]; rfl
    rw [e0]
    obtain ⟨gw, cw, rfl, -⟩ := Kd.R_form h.hw (by omega)
    have H := Aside0.mk h
    have HW := Aside0.mk hwho
    have HF := Aside0.mk hf
    have HL := Aside0.mk hlog
    clear h hf hlog hwho e0
    go_enter Try.func32, Try.ntmps32
    go_wp2_with (first | (go_at_call 86; (with_reducible refine (fits_V who at_ _ HW.out W H.out).mono ?_); rintro e w1 ⟨rfl, rfl⟩) | (go_at_call 87; (with_reducible refine (note_V who 1 at_ true _ H.out HF.out HL.out).mono ?_); rintro e w1 ⟨rfl, vo1, hm1, hk1, hb1⟩; obtain ⟨hy0, -, -, -, -, -⟩ := hm1.cell; obtain ⟨hc1, hz1⟩ := Kd.R_celln 0 hm1.hw at_ q1 q2; have HM := Aside0.mk hm1; have HK := Aside0.mk hk1; have HB := Aside0.mk hb1; clear hx0 hm1 hk1 hb1))
    ((try simp only [Exit.inBlock, Exit.then]); first | refine bodyPost_ret (results_none rfl _ _ _) rfl ?_ | refine bodyPost_end (results_none rfl _ _ _) rfl ?_)
    have hp := Kd.R_putg HM.out.hw at_ v
    exact ⟨rfl, _, HM.out.put_w hp.1 hp.2, HK.out.setCell (.inl (HM.out.hw.1 gw rfl)) _, HB.out.setCell (Kd.R_base HM.out.hw gw rfl) _⟩
def MS.load (M : MS) (who at_ : Int) : Int := if M.fits who at_ (M.words.length : Int) = true then rd M.words at_ else 0
def MS.loadTo (M : MS) (who at_ : Int) : MS := if M.fits who at_ (M.words.length : Int) = true then M.note who 0 at_ true else M
set_option maxRecDepth 100000 in
set_option maxHeartbeats 1000000 in
theorem Load_V (who at_ : Int) (hwho : (Lit.int .i64 who).wf = true) (W : World) {base : Nat} {own : Nat → Prop} {g bm : Nat} {vw vb vl vo : Value} {M : MS} (h : MemV W base own g bm vw vb vl vo M) (hf : ∀ k, W.heap.size ≤ k → own k) (hlog : M.log.length ≤ 1000000) :
    Calls Try.prog 36 #[.pointer (some ⟨g, 0, none⟩), .int .i64 who, .int .i64 at_] W fun e w' => e = .returned (.int .u64 (M.load who at_)) ∧ MemTo W w' base own g bm vw vb vl (M.loadTo who at_) := by
  obtain ⟨hx0, -, -, -, -, -⟩ := h.cell
  cases hq : M.fits who at_ (M.words.length : Int)
  · have e0 : M.loadTo who at_ = M := by unfold MS.loadTo; rw [hq]; rfl
    have e1 : M.load who at_ = 0 := by unfold MS.load; rw [hq]; rfl
    rw [e0, e1]
    obtain ⟨A, c, rfl⟩ := Kd.R_slice h.hw
    have H := Aside0.mk h
    have HW := Aside0.mk hwho
    clear h hf hlog hwho e0 e1
    go_enter Try.func36, Try.ntmps36
    go_wp2_with (first | (go_at_call 86; (with_reducible refine (fits_V who at_ _ HW.out W H.out).mono ?_); rintro e w1 ⟨rfl, rfl⟩))
    go_ret
    exact ⟨rfl, MemTo.of H.out⟩
  · obtain ⟨q0, q1, q2, -⟩ := fits_at hq
    have e0 : M.loadTo who at_ = M.note who 0 at_ true := by unfold MS.loadTo; rw [hq]; rfl
    have e1 : M.load who at_ = rd M.words at_ := by unfold MS.load; rw [hq]; rfl
    rw [e0, e1]
    obtain ⟨gw, cw, rfl, -⟩ := Kd.R_form h.hw (by omega)
    have H := Aside0.mk h
    have HW := Aside0.mk hwho
    have HF := Aside0.mk hf
    have HL := Aside0.mk hlog
    clear h hf hlog hwho e0 e1
    go_enter Try.func36, Try.ntmps36
    go_wp2_with (first | (go_at_call 86; (with_reducible refine (fits_V who at_ _ HW.out W H.out).mono ?_); rintro e w1 ⟨rfl, rfl⟩) | (go_at_call 87; (with_reducible refine (note_V who 0 at_ true _ H.out HF.out HL.out).mono ?_); rintro e w1 ⟨rfl, vo1, hm1, hk1, hb1⟩; obtain ⟨hy0, -, -, -, -, -⟩ := hm1.cell; obtain ⟨hc1, -⟩ := Kd.R_celln 0 hm1.hw at_ q1 q2; have HM := Aside0.mk (show MemTo _ _ _ _ _ _ _ _ _ _ from ⟨vo1, hm1, hk1, hb1⟩); clear hx0 hm1 hk1 hb1))
    go_ret
    exact ⟨rfl, HM.out⟩
def MS.passB (M : MS) (who at_ fr : Int) : Bool := M.fits who at_ (M.latches.length : Int) && decide (rd M.latches at_ = fr)
def MS.pass (M : MS) (who kind at_ fr to_ : Int) : MS := if M.fits who at_ (M.latches.length : Int) = true then (if rd M.latches at_ = fr then { M.note who kind at_ true with latches := M.latches.set at_.toNat to_ } else M.note who kind at_ false) else M
set_option maxRecDepth 100000 in
set_option maxHeartbeats 1000000 in
theorem pass_V (who kind at_ fr to_ : Int) (hwho : (Lit.int .i64 who).wf = true) (W : World) {base : Nat} {own : Nat → Prop} {g bm : Nat} {vw vb vl vo : Value} {M : MS} (h : MemV W base own g bm vw vb vl vo M) (hf : ∀ k, W.heap.size ≤ k → own k) (hlog : M.log.length ≤ 1000000) :
    Calls Try.prog 91 #[.pointer (some ⟨g, 0, none⟩), .int .i64 who, .int .i64 kind, .int .i64 at_, .int .i64 fr, .int .i64 to_] W fun e w' => e = .returned (.bool (M.passB who at_ fr)) ∧ MemTo W w' base own g bm vw vb vl (M.pass who kind at_ fr to_) := by
  obtain ⟨-, -, hx2, -, -, -⟩ := h.cell
  cases hq : M.fits who at_ (M.latches.length : Int)
  · have e0 : M.pass who kind at_ fr to_ = M := by unfold MS.pass; rw [hq]; rfl
    have e1 : M.passB who at_ fr = false := by unfold MS.passB; rw [hq]; rfl
    rw [e0, e1]
    obtain ⟨A, c, rfl⟩ := Kd.R_slice h.hl
    have H := Aside0.mk h
    have HW := Aside0.mk hwho
    clear h hf hlog hwho e0 e1
    go_enter Try.func91, Try.ntmps91
    go_wp2_with (first | (go_at_call 86; (with_reducible refine (fits_V who at_ _ HW.out W H.out).mono ?_); rintro e w1 ⟨rfl, rfl⟩))
    go_ret
    exact ⟨rfl, MemTo.of H.out⟩
  · obtain ⟨q0, q1, q2, -⟩ := fits_at hq
    obtain ⟨gw, cw, hvl, -⟩ := Kd.R_form h.hl (by omega)
    subst hvl
    obtain ⟨hc0, -⟩ := Kd.R_celln 0 h.hl at_ q1 q2
    replace hc0 : W.cell? ⟨gw, at_.toNat, none⟩ = some (.int .i64 (rd M.latches at_)) := hc0
    by_cases hr : rd M.latches at_ = fr
    · have e0 : M.pass who kind at_ fr to_ = { M.note who kind at_ true with latches := M.latches.set at_.toNat to_ } := by unfold MS.pass; rw [hq, if_pos rfl, if_pos hr]
      have e1 : M.passB who at_ fr = true := by unfold MS.passB; rw [hq, decide_eq_true hr]; rfl
      rw [e0, e1]
      have hd : (rd M.latches at_ == fr) = true := beq_iff_eq.2 hr
      have H := Aside0.mk h
      have HW := Aside0.mk hwho
      have HF := Aside0.mk hf
      have HL := Aside0.mk hlog
      clear h hf hlog hwho e0 e1 hr
      go_enter Try.func91, Try.ntmps91
      go_wp2_with (first | (go_at_call 86; (with_reducible refine (fits_V who at_ _ HW.out W H.out).mono ?_); rintro e w1 ⟨rfl, rfl⟩) | (go_at_call 87; (with_reducible refine (note_V who kind at_ true _ H.out HF.out HL.out).mono ?_); (rintro e w1 ⟨rfl, vo1, hm1, hk1, hb1⟩; obtain ⟨-, -, hy2, -, -, -⟩ := hm1.cell; obtain ⟨hc1, hz1⟩ := Kd.R_celln 0 hm1.hl at_ q1 q2; have HM := Aside0.mk hm1; have HK := Aside0.mk hk1; have HB := Aside0.mk hb1; clear hx2 hc0 hm1 hk1 hb1)))
      go_ret
      have hp := Kd.R_putg HM.out.hl at_ to_
      exact ⟨rfl, _, HM.out.put_l hp.1 hp.2, HK.out.setCell (.inl (HM.out.hl.1 gw rfl)) _, HB.out.setCell (Kd.R_base HM.out.hl gw rfl) _⟩
    · have e0 : M.pass who kind at_ fr to_ = M.note who kind at_ false := by unfold MS.pass; rw [hq, if_pos rfl, if_neg hr]
      have e1 : M.passB who at_ fr = false := by unfold MS.passB; rw [hq, decide_eq_false hr]; rfl
      rw [e0, e1]
      have hd : (rd M.latches at_ == fr) = false := beq_false_of_ne hr
      have H := Aside0.mk h
      have HW := Aside0.mk hwho
      have HF := Aside0.mk hf
      have HL := Aside0.mk hlog
      clear h hf hlog hwho e0 e1 hr
      go_enter Try.func91, Try.ntmps91
      go_wp2_with (first | (go_at_call 86; (with_reducible refine (fits_V who at_ _ HW.out W H.out).mono ?_); rintro e w1 ⟨rfl, rfl⟩) | (go_at_call 87; (with_reducible refine (note_V who kind at_ false _ H.out HF.out HL.out).mono ?_); rintro e w1 ⟨rfl, vo1, hm1, hk1, hb1⟩; have HM := Aside0.mk (show MemTo _ _ _ _ _ _ _ _ _ _ from ⟨vo1, hm1, hk1, hb1⟩); clear hx2 hc0 hm1 hk1 hb1))
      go_ret
      exact ⟨rfl, HM.out⟩
set_option maxRecDepth 100000
theorem Take_V (who at_ : Int) (hwho : (Lit.int .i64 who).wf = true) (W : World) {base : Nat} {own : Nat → Prop} {g bm : Nat} {vw vb vl vo : Value} {M : MS} (h : MemV W base own g bm vw vb vl vo M) (hf : ∀ k, W.heap.size ≤ k → own k) (hlog : M.log.length ≤ 1000000) :
    Calls Try.prog 49 #[.pointer (some ⟨g, 0, none⟩), .int .i64 who, .int .i64 at_] W fun e w' => e = .returned (.bool (M.passB who at_ (-1))) ∧ MemTo W w' base own g bm vw vb vl (M.pass who 4 at_ (-1) who) := by
  have H := Aside0.mk (pass_V who 4 at_ (-1) who hwho W h hf hlog)
  clear h hf hlog hwho
  go_enter Try.func49, Try.ntmps49
  go_wp2_with (first | (go_at_call 91; (with_reducible refine H.out.mono ?_); rintro e w1 ⟨rfl, hm1⟩; have HM := Aside0.mk hm1; clear hm1))
  go_ret
  exact ⟨rfl, HM.out⟩
theorem Free_V (who at_ : Int) (hwho : (Lit.int .i64 who).wf = true) (W : World) {base : Nat} {own : Nat → Prop} {g bm : Nat} {vw vb vl vo : Value} {M : MS} (h : MemV W base own g bm vw vb vl vo M) (hf : ∀ k, W.heap.size ≤ k → own k) (hlog : M.log.length ≤ 1000000) :
    Calls Try.prog 50 #[.pointer (some ⟨g, 0, none⟩), .int .i64 who, .int .i64 at_] W fun e w' => e = .returned (.bool (M.passB who at_ who)) ∧ MemTo W w' base own g bm vw vb vl (M.pass who 5 at_ who (-1)) := by
  have H := Aside0.mk (pass_V who 5 at_ who (-1) hwho W h hf hlog)
  clear h hf hlog hwho
  go_enter Try.func50, Try.ntmps50
  go_wp2_with (first | (go_at_call 91; (with_reducible refine H.out.mono ?_); rintro e w1 ⟨rfl, hm1⟩; have HM := Aside0.mk hm1; clear hm1))
  go_ret
  exact ⟨rfl, HM.out⟩
theorem BedIs.put {D : DataW Unit} {f : Int → Option Int} (hm : IsMap D) (h : BedIs D f) (x v : Int) : BedIs (D.put (.int .i64 x) (.lit (.int .i64 v))) (upd f x (some v)) := by
  intro y
  by_cases e : y = x
  · subst e
    refine ⟨by rw [has_put_same (k := .int .i64 y) hm trivial]; simp [upd], fun v' hv z => ?_⟩
    rw [atKey_put_same (k := .int .i64 y) hm trivial]
    simp [upd] at hv
    rw [hv]
  · refine ⟨by rw [has_put_other (keyI_ne e)]; simp [upd, e]; exact (h y).1, fun v' hv z => ?_⟩
    rw [atKey_put_other (keyI_ne e)]
    simp [upd, e] at hv
    exact (h y).2 v' hv z
def outOf (f : Int → Option Int) (V : List Int) : Int → Option Int := fun x => if x ∈ V then none else f x
theorem BedIs.of_at {D : DataW Unit} {f : Int → Option Int} (h : BedIs D f) {x c : Int} (hat : ∀ z, D.atKey (.int .i64 x) z = .lit (.int .i64 c)) : f x = some c := by
  have h1 : Maps.has D (.int .i64 x) = true := has_true_of_atKey hat
  rw [(h x).1] at h1
  obtain ⟨v, hv⟩ := Option.isSome_iff_exists.1 h1
  have h2 := (h x).2 v hv .nil
  rw [hat] at h2
  injection h2 with h2
  injection h2 with _ h2
  rw [hv, h2]
structure Waking (f : Int → Option Int) (at_ : Int) (D : DataW Unit) (left : Lit → Bool) (V : List Int) : Prop where
  bed : BedIs D (outOf f V)
  nd : V.Nodup
  of : ∀ x ∈ V, f x = some at_
  to_ : ∀ x, outOf f V x = some at_ → left (.int .i64 x) = true
theorem Waking.all {f : Int → Option Int} {at_ : Int} {D : DataW Unit} {left : Lit → Bool} {V : List Int} (h : Waking f at_ D left V) (hl : ∀ k, left k = false) : outOf f V = (fun x => if f x = some at_ then none else f x) ∧ ∀ x, x ∈ V ↔ f x = some at_ := by
  have key : ∀ x, x ∈ V ↔ f x = some at_ := fun x => ⟨h.of x, fun hx => by
    by_cases hv : x ∈ V
    · exact hv
    · have := h.to_ x (by unfold outOf; rw [if_neg hv]; exact hx)
      rw [hl] at this; cases this⟩
  exact ⟨funext fun x => by unfold outOf; simp only [key], key⟩
theorem Waking.skip {f : Int → Option Int} {at_ x c : Int} {D : DataW Unit} {left : Lit → Bool} {V : List Int} (h : Waking f at_ D left V) (hat : ∀ z, D.atKey (.int .i64 x) z = .lit (.int .i64 c)) (hc : c ≠ at_) : Waking f at_ D (fun z => left z && !z.sameKey (.int .i64 x)) V := by
  refine ⟨h.bed, h.nd, h.of, fun y hy => ?_⟩
  have hne : y ≠ x := fun e => by subst e; rw [h.bed.of_at hat] at hy; exact hc (Option.some.inj hy)
  show (left (.int .i64 y) && !(Lit.int .i64 y).sameKey (.int .i64 x)) = true
  rw [h.to_ y hy, sameKey_ne (keyI_ne hne)]; rfl
/-! ### bits_Mul64: function 121 -/
def bits_Mul64.f (a0 : Int) (a1 : Int) : Option (Int × Int) := some (IntKind.u64.wrap ((IntKind.u64.wrap ((IntKind.u64.wrap ((a0 / 4294967296) * (a1 / 4294967296))) + ((IntKind.u64.wrap ((IntKind.u64.wrap ((a0 / 4294967296) * (Go.bits .and .u64 a1 4294967295))) + ((IntKind.u64.wrap ((Go.bits .and .u64 a0 4294967295) * (Go.bits .and .u64 a1 4294967295))) / 4294967296))) / 4294967296))) + ((IntKind.u64.wrap ((Go.bits .and .u64 (IntKind.u64.wrap ((IntKind.u64.wrap ((a0 / 4294967296) * (Go.bits .and .u64 a1 4294967295))) + ((IntKind.u64.wrap ((Go.bits .and .u64 a0 4294967295) * (Go.bits .and .u64 a1 4294967295))) / 4294967296))) 4294967295) + (IntKind.u64.wrap ((Go.bits .and .u64 a0 4294967295) * (a1 / 4294967296))))) / 4294967296)), IntKind.u64.wrap (a0 * a1))
set_option maxHeartbeats 8000000 in
set_option maxRecDepth 100000 in
theorem bits_Mul64.calls (a0 : Int) (a1 : Int) (r1 : Int) (r2 : Int) (w : World) (h : bits_Mul64.f a0 a1 = some (r1, r2)) :
    Calls Try.prog 121 #[.int .u64 a0, .int .u64 a1] w fun e w' => e = .returned (.tuple #[.int .u64 r1, .int .u64 r2]) ∧ Drawn0 w w' := by
  have H : (some (IntKind.u64.wrap ((IntKind.u64.wrap ((IntKind.u64.wrap ((a0 / 4294967296) * (a1 / 4294967296))) + ((IntKind.u64.wrap ((IntKind.u64.wrap ((a0 / 4294967296) * (Go.bits .and .u64 a1 4294967295))) + ((IntKind.u64.wrap ((Go.bits .and .u64 a0 4294967295) * (Go.bits .and .u64 a1 4294967295))) / 4294967296))) / 4294967296))) + ((IntKind.u64.wrap ((Go.bits .and .u64 (IntKind.u64.wrap ((IntKind.u64.wrap ((a0 / 4294967296) * (Go.bits .and .u64 a1 4294967295))) + ((IntKind.u64.wrap ((Go.bits .and .u64 a0 4294967295) * (Go.bits .and .u64 a1 4294967295))) / 4294967296))) 4294967295) + (IntKind.u64.wrap ((Go.bits .and .u64 a0 4294967295) * (a1 / 4294967296))))) / 4294967296)), IntKind.u64.wrap (a0 * a1))) = some (r1, r2) := h
  clear h
  simp only [Option.some.injEq, Prod.mk.injEq] at H
  obtain ⟨rfl, rfl⟩ := H
  go_enter Try.func121, Try.ntmps121
  go_wp2
  go_ret2
  exact ⟨by first | rfl | (simp; done) | (simp [*]; done), by repeat (first | exact Drawn0.refl _ | apply Drawn0.step)⟩
/-! ### bits_Mul: function 108 -/
def bits_Mul.f (a0 : Int) (a1 : Int) : Option (Int × Int) := (bits_Mul64.f a0 a1).bind fun bt233 => (some (bt233.1, bt233.2))
set_option maxHeartbeats 8000000 in
set_option maxRecDepth 100000 in
theorem bits_Mul.calls (a0 : Int) (a1 : Int) (r1 : Int) (r2 : Int) (w : World) (h : bits_Mul.f a0 a1 = some (r1, r2)) :
    Calls Try.prog 108 #[.int .u64 a0, .int .u64 a1] w fun e w' => e = .returned (.tuple #[.int .u64 r1, .int .u64 r2]) ∧ Drawn0 w w' := by
  have H : ((bits_Mul64.f a0 a1).bind fun bt233 => (some (bt233.1, bt233.2))) = some (r1, r2) := h
  clear h
  replace H := Option.bind_eq_some_iff.mp H
  obtain ⟨⟨t233, t234⟩, A30, H⟩ := H
  replace H : (some (t233, t234)) = some (r1, r2) := H
  have A3 := Aside0.mk A30
  clear A30
  simp only [Option.some.injEq, Prod.mk.injEq] at H
  obtain ⟨rfl, rfl⟩ := H
  go_enter Try.func108, Try.ntmps108
  go_wp2_with (first | ((with_reducible refine gate_callee (f := 121) rfl ?_); refine goesL_ (some 25) rfl rfl Try.func121 (by kernel_rfl) rfl #[.int .u64 a0, .int .u64 a1] rfl (by (try simp only [List.map_toArray, List.map_cons, List.map_nil]); first | done | rfl | (simp only [List.length_drop, List.length_take]; rfl)) ?_; (with_reducible refine (bits_Mul64.calls a0 a1 t233 t234 _ A3.out).mono ?_); rintro e w' ⟨rfl, ⟨nd, rfl⟩⟩; refine ⟨_, rfl, ?_⟩))
  go_ret2
  exact ⟨by first | rfl | (simp; done) | (simp [*]; done), by repeat (first | exact Drawn0.refl _ | apply Drawn0.step)⟩
def slices_Repeat.f (l0 : List Int) (a1 : Int) : Option (List Int) := if l0.length = 1 ∧ 0 ≤ a1 ∧ a1 ≤ 1000000 then some (List.replicate a1.toNat (rd l0 0)) else none
theorem wraps63 (n : Int) (h₀ : 0 ≤ n) (h₁ : n < 2 ^ 63) : IntKind.u64.wrap n = n := by rw [IntKind.wrap_u64]; omega
theorem mul_one (n : Int) (h0 : 0 ≤ n) (h1 : n ≤ 1000000) : bits_Mul.f 1 n = some (0, n) := by
  have d : n / 4294967296 = 0 := by omega
  have e : Go.bits .and .u64 n 4294967295 = n := by
    have h := bits_mask .u64 63 (by decide) wraps63 32 (by decide) n h0 (by omega)
    have e2 : ((2 : Int) ^ 32) = 4294967296 := by decide
    rw [e2] at h
    rw [show (4294967295 : Int) = 4294967296 - 1 by omega, h]
    omega
  have e1 : Go.bits .and .u64 1 4294967295 = 1 := by decide
  have e0 : Go.bits .and .u64 0 4294967295 = 0 := by decide
  have w : IntKind.u64.wrap n = n := wraps63 n h0 (by omega)
  have w0 : IntKind.u64.wrap 0 = 0 := by decide
  unfold bits_Mul.f bits_Mul64.f
  rw [d, e, e1]
  simp only [show (1 : Int) / 4294967296 = 0 by decide, Int.zero_mul, Int.mul_zero, Int.one_mul, w0, w, d, Int.zero_add, Int.add_zero, Option.bind_some, show (0 : Int) / 4294967296 = 0 by decide, e0]
def rowc (x : Int) (c n : Nat) (rest : List Value) : List Value := List.replicate c (.int .i64 x) ++ (List.replicate (n - c) (.int .i64 0) ++ rest)
theorem rowc_len (x : Int) {c n : Nat} (rest : List Value) (h : c ≤ n) : (rowc x c n rest).length = n + rest.length := by simp [rowc]; omega
theorem rowc_splice (x : Int) {c n m : Nat} (rest : List Value) (h : c + m ≤ n) : splice (rowc x c n rest) c (List.replicate m (.int .i64 x)) = rowc x (c + m) n rest := by
  unfold splice rowc
  rw [List.take_append_of_le_length (by simp), List.take_of_length_le (by simp)]
  have : List.drop (c + (List.replicate m (Value.int .i64 x)).length) (List.replicate c (Value.int .i64 x) ++ (List.replicate (n - c) (Value.int .i64 0) ++ rest)) = List.replicate (n - (c + m)) (Value.int .i64 0) ++ rest := by
    rw [List.drop_append, List.drop_of_length_le (by simp), List.nil_append, List.length_replicate, List.length_replicate, Nat.add_sub_cancel_left, List.drop_append_of_le_length (by simp; omega), List.drop_replicate, Nat.sub_sub]
  rw [this, ← List.append_assoc, List.replicate_append_replicate]
theorem made_row {w : World} {base : Nat} {ok : Nat → Prop} {v : Value} {m : Nat} (h : Kd.R (Kd.int .i64) 3 w base ok v (List.replicate ((m : Int)).toNat 0)) : (v = .slice none 0 0 ∧ m = 0) ∨ ∃ g cap rest, v = .slice (some ⟨g, 0, none⟩) m cap ∧ base ≤ g ∧ w.heap[g]? = some (.cells (rowc 0 0 m rest).toArray 3 (0, 0)) ∧ m ≤ cap ∧ cap ≤ maxLen ∧ m + rest.length = cap := by
  have ho := Kd.own_of_R h
  rw [Int.toNat_natCast, List.length_replicate] at ho
  obtain ⟨_, h1 | ⟨g, cap, cur, h1, h2, h3, h4, h5, h6, h7⟩⟩ := ho
  · exact .inl h1
  · refine .inr ⟨g, cap, cur.toList.drop m, h1, h2, ?_, h4, h5, by simp; omega⟩
    have e : rowc 0 0 m (cur.toList.drop m) = cur.toList := by
      unfold rowc
      rw [Nat.mul_one] at h7
      have : List.take m cur.toList = List.replicate m (Value.int .i64 0) := by rw [h7]; simp [encs]
      rw [Nat.sub_zero, ← this, List.replicate_zero, List.nil_append, List.take_append_drop]
    rw [e]; exact h3
theorem row_made {w : World} {base : Nat} {m g cap : Nat} {x : Int} {rest : List Value} (h2 : base ≤ g) (h3 : w.heap[g]? = some (.cells (rowc x m m rest).toArray 3 (0, 0))) (h4 : m ≤ cap) (h5 : cap ≤ maxLen) (h6 : m + rest.length = cap) : Kd.R (Kd.int .i64) 3 w base (fun _ => True) (.slice (some ⟨g, 0, none⟩) m cap) (List.replicate m x) := by
  refine Kd.R_of_own ⟨by simp [encs], .inr ⟨g, cap, _, by rw [List.length_replicate], h2, h3, by rw [List.length_replicate]; exact h4, h5, ?_, ?_⟩⟩ (fun _ _ => trivial)
  · simp [rowc]; omega
  · simp [rowc, encs]
theorem made_pos {w : World} {base : Nat} {ok : Nat → Prop} {v : Value} {m : Nat} (x : Int) (hm : 0 < m) (h : Kd.R (Kd.int .i64) 3 w base ok v (List.replicate ((m : Int)).toNat 0)) : ∃ g cap rest, v = .slice (some ⟨g, 0, none⟩) m cap ∧ base ≤ g ∧ Aside0 (w.heap[g]? = some (.cells (rowc x 0 m rest).toArray 3 (0, 0))) ∧ m ≤ cap ∧ cap ≤ maxLen ∧ m + rest.length = cap := by
  rcases made_row h with h | ⟨g, cap, rest, h1, h2, h3, h4⟩
  · omega
  · exact ⟨g, cap, rest, h1, h2, ⟨h3⟩, h4⟩
theorem made_zero {w : World} {base : Nat} {ok : Nat → Prop} {v : Value} {m : Nat} (h : Kd.R (Kd.int .i64) 3 w base ok v (List.replicate ((m : Int)).toNat 0)) : ∃ p cap, v = .slice p m cap := by
  rcases made_row h with h | ⟨g, cap, rest, h1, _⟩
  · exact ⟨none, 0, by rw [h.1, h.2]⟩
  · exact ⟨_, _, h1⟩
set_option maxHeartbeats 1000000 in
set_option maxRecDepth 100000 in
theorem slices_Repeat.calls (A0 : Option Addr) (c0 : Nat) (l0 : List Int) (a1 : Int) (r : List Int) (w : World) (hr0 : Kd.C (Kd.int .i64) w A0 l0.length l0) (hc0 : l0.length ≤ c0) (h : slices_Repeat.f l0 a1 = some r) :
    Calls Try.prog 85 #[.slice A0 l0.length c0, .int .i64 a1] w fun e w' => ∃ v0_ : Value, e = .returned v0_ ∧ Kd.R (Kd.int .i64) 3 w' w.heap.size (fun _ => True) v0_ r ∧ Below w.heap.size w w' := by
  unfold slices_Repeat.f at h
  by_cases c : l0.length = 1 ∧ 0 ≤ a1 ∧ a1 ≤ 1000000
  · rw [if_pos c] at h
    obtain rfl := Option.some.inj h
    obtain ⟨x, rfl⟩ := List.length_eq_one_iff.1 c.1
    obtain ⟨_, h0, h1⟩ := c
    clear h
    obtain ⟨m, rfl⟩ := Int.eq_ofNat_of_zero_le h0
    have HM := Aside0.mk (mul_one m h0 h1)
    have hneg := decide_eq_false (show ¬ (m : Int) < 0 by omega)
    have hbig := decide_eq_false (show ¬ (9223372036854775807 : Int) < (m : Int) by omega)
    by_cases hm : 0 < m
    · obtain ⟨ad, rfl, hx⟩ := Kd.at_int hr0 0 (by omega) (by simp)
      have K1 := Aside0.mk (show (List.replicate 1 (Value.int .i64 x)).length = Nat.min 1 m by rw [List.length_replicate]; show 1 = min 1 m; omega)
      have K2 := Aside0.mk (fun (c k : Nat) (rest : List Value) (hk : c + k ≤ m) => (by rw [rowc_len _ _ (by omega), List.length_replicate]; omega : c + (List.replicate k (Value.int .i64 x)).length ≤ (rowc x c m rest).length))
      have K3 := Aside0.mk (fun (n : Nat) => (fun v hv => by rw [List.eq_of_mem_replicate hv]; rfl : ∀ v ∈ List.replicate n (Value.int .i64 x), v.oneCell' = true))
      have HR := Aside0.mk hr0
      clear hr0 hc0 hx
      go_enter Try.func85, Try.ntmps85
      go_wp2_with (first | (go_at_call 108; (with_reducible refine (bits_Mul.calls 1 m 0 m _ HM.out).mono ?_); rintro e w' ⟨rfl, ⟨nd, rfl⟩⟩) | ((with_reducible refine gate_dst (N := 30) rfl ?_); refine Kd.R_make (Kd.int .i64) (w0 := w) w.heap.size 3 rfl (N := 30) rfl 25 _ _ rfl (m : Int) rfl rfl Try.underlying25 (.int .i64 0) 8 info3 rfl (by decide) (by omega) 0 (ok := fun _ => True) (okp := fun _ => True) rfl (fun _ hk => hk) trivial h0 (by omega) ?hB ?hS ?_; (case hB => repeat (first | exact Below.refl _ _ | (with_reducible first | apply below_alloc | apply pw_below_drewN | apply below_drew1))); (case hS => exact Nat.le_refl _); intro v w2 ho hb hg hn; clear hg hn; obtain ⟨g, cap, rest, rfl, hbg, h3, h4, h5, h6⟩ := made_pos x hm ho; have HB := Aside0.mk hb; clear ho hb) | ((with_reducible refine gate_builtin (b := .copy) (xs := #[.tmp 31, .tmp 32]) rfl ?_); refine wpList_copy_splice rfl (.tmp 31) (.tmp 32) 25 25 rfl 3 Try.underlying25 (by kernel_rfl) _ _ _ _ _ _ rfl rfl g 0 (rowc x 0 m rest) 3 h3.out (List.replicate 1 (.int .i64 x)) K1.out ?hp (K2.out 0 1 rest (by omega)) (K3.out 1) w.heap.size w HB.out hbg ?_; (case hp => (intro _; refine ⟨rfl, _, rfl, ?_⟩; intro j v hj; obtain ⟨ad', e1, e2⟩ := Kd.at_int (Kd.C_below HR.out HB.out) 0 (by omega) (by simp); cases e1; cases j with | zero => (cases hj; exact e2) | succ j => simp at hj)); intro w3 hg3 hb3; have H3 := Aside0.mk hg3; have HB3 := Aside0.mk hb3; clear hg3 hb3))
      have H4 : Aside0 (w3.heap[g]? = some (.cells (rowc x 1 m rest).toArray 3 (0, 0))) := ⟨by have := H3.out.out; rwa [rowc_splice x rest (by omega), Nat.zero_add] at this⟩
      clear H3 HB h3
      go_loopw [8] (fun v8 wr => ∃ c : Nat, v8 = .int .i64 (c : Int) ∧ Aside0 (1 ≤ c ∧ c ≤ m ∧ wr.heap[g]? = some (.cells (rowc x c m rest).toArray 3 (0, 0)) ∧ Below w.heap.size w wr)) (fun v8 _ => ((m : Int) - intOf v8).toNat)
      case atStart => exact ⟨1, rfl, ⟨by omega, by omega, H4.out, HB3.out⟩⟩
      case round =>
        obtain ⟨c, rfl, HI⟩ := hrel
        have c0 := HI.out.1
        have c1 := HI.out.2.1
        by_cases hlt : c < m
        · have hltb := decide_eq_true (show (c : Int) < (m : Int) by omega)
          have q0 : (0 : Int) ≤ (c : Int) := by omega
          have q1 : (c : Int) ≤ (m : Int) := by omega
          have q2 : (c : Int) ≤ (cap : Int) := by omega
          have q3 : c ≤ m := c1
          have q4 : c ≤ cap := by omega
          have q5 : ¬ cap = c := by omega
          have hcell : Aside0 (∀ j, j < c → wr.cell? ⟨g, j, none⟩ = some (.int .i64 x)) := ⟨fun j hj => by
            have h3 := HI.out.2.2.1
            simp only [World.cell?, h3]
            simp only [rowc]
            simp
            rw [List.getElem?_append_left (by simpa using hj), List.getElem?_replicate, if_pos hj]⟩
          go_wp2_with fail
          go_region_law (go_loud (refine step_copy_splice rfl (.tmp 41) (.tmp 44) 25 25 rfl 3 Try.underlying25 (by kernel_rfl) (some ⟨g, c, none⟩) (some ⟨g, 0, none⟩) (m - c) (cap - c) c cap (by simp [Act.eval, Act.put]) (by simp [Act.eval, Act.put]) g c (rowc x c m rest) 3 HI.out.2.2.1 (List.replicate (Nat.min c (m - c)) (.int .i64 x)) (by rw [List.length_replicate]) ?hp (K2.out c _ rest (by have : Nat.min c (m - c) ≤ m - c := Nat.min_le_right _ _; omega)) (K3.out _) w.heap.size w (below_step HI.out.2.2.2 (Drawn0.below ⟨⟨_, rfl⟩⟩)) hbg ?_); (case hp => go_loud (exact fun _ => ⟨rfl, _, rfl, fun j v hj => by
            obtain ⟨hj1, hj2⟩ := List.getElem?_eq_some_iff.1 hj
            rw [List.getElem_replicate] at hj2
            subst hj2
            rw [List.length_replicate] at hj1
            have hk : Nat.min c (m - c) ≤ c := Nat.min_le_left _ _
            have := hcell.out j (by omega)
            rw [Addr.add_lit, Nat.zero_add]
            exact this⟩)); intro w4 hg4 hb4; have H5 := Aside0.mk hg4; have HB5 := Aside0.mk hb4; clear hg4 hb4)
          all_goals
            have hk : Nat.min c (m - c) = min c (m - c) := rfl
            generalize Nat.min c (m - c) = k at hk H5 HB5
            have hk1 : c + k ≤ m := by omega
            have hk2 : 1 ≤ k := by omega
            have H6 : Aside0 (w4.heap[g]? = some (.cells (rowc x (c + k) m rest).toArray 3 (0, 0))) := ⟨by have := H5.out.out; rwa [rowc_splice x rest hk1] at this⟩
            clear H5
            have hwr : IntKind.i64.wrap ((c : Int) + (k : Int)) = ((c + k : Nat) : Int) := by rw [IntKind.wrap_i64]; omega
            dsimp only [Act.put, Option.elim, List.getElem_toArray, List.getElem_cons_succ, List.getElem_cons_zero]
            simp only [List.setIfInBounds_toArray, List.set_cons_zero, List.set_cons_succ, hwr]
            go_wp2
            go_roundw
            case rel => exact ⟨c + k, rfl, ⟨by omega, hk1, H6.out, HB5.out⟩⟩
            case measure => simp [intOf]; omega
        · obtain rfl : c = m := by omega
          have hltb := decide_eq_false (show ¬ (c : Int) < (c : Int) by omega)
          go_wp2
          go_ret
          exact ⟨_, rfl, row_made hbg HI.out.2.2.1 h4 h5 h6, HI.out.2.2.2⟩
    · have hm0 : Nat.min 1 m = 0 := by show min 1 m = 0; omega
      clear hr0 hc0
      go_enter Try.func85, Try.ntmps85
      go_wp2_with (first | (go_at_call 108; (with_reducible refine (bits_Mul.calls 1 m 0 m _ HM.out).mono ?_); rintro e w' ⟨rfl, ⟨nd, rfl⟩⟩) | ((with_reducible refine gate_dst (N := 30) rfl ?_); refine Kd.R_make (Kd.int .i64) (w0 := w) w.heap.size 3 rfl (N := 30) rfl 25 _ _ rfl (m : Int) rfl rfl Try.underlying25 (.int .i64 0) 8 info3 rfl (by decide) (by omega) 0 (ok := fun _ => True) (okp := fun _ => True) rfl (fun _ hk => hk) trivial h0 (by omega) ?hB ?hS ?_; (case hB => repeat (first | exact Below.refl _ _ | (with_reducible first | apply below_alloc | apply pw_below_drewN | apply below_drew1))); (case hS => exact Nat.le_refl _); intro v w2 ho hb hg hn; clear hg hn; obtain ⟨p, cap, rfl⟩ := made_zero ho; have HO := Aside0.mk ho; have HB := Aside0.mk hb; clear ho hb) | ((with_reducible refine gate_builtin (b := .copy) (xs := #[.tmp 31, .tmp 32]) rfl ?_); refine wpList_copy_nothing rfl (.tmp 31) (.tmp 32) 25 25 rfl 3 Try.underlying25 (by kernel_rfl) _ _ _ _ _ _ rfl rfl hm0 ?_))
      go_loopw [8] (fun v8 wr => v8 = .int .i64 0 ∧ wr = w2) (fun v8 _ => 0)
      case atStart => exact ⟨rfl, rfl⟩
      case round =>
        obtain ⟨rfl, rfl⟩ := hrel
        have hltb := decide_eq_false (show ¬ (0 : Int) < (m : Int) by omega)
        go_wp2
        go_ret
        refine ⟨_, rfl, ?_, HB.out⟩
        have := HO.out
        obtain rfl : m = 0 := by omega
        exact this
  · rw [if_neg c] at h; cases h
def slices_CloneB.f (l0 : List S143) : Option (List S143) := if l0.length < 5864062014805 then some l0 else none
set_option maxHeartbeats 400000 in
theorem slices_CloneB.calls (A0 : Option Addr) (c0 : Nat) (l0 : List S143) (r : List S143) (w : World) (hr0 : Kd.C k143 w A0 l0.length l0) (hc0 : l0.length ≤ c0) (h : slices_CloneB.f l0 = some r) :
    Calls Try.prog 89 #[.slice A0 l0.length c0] w fun e w' => ∃ v0_ : Value, e = .returned v0_ ∧ Kd.R k143 143 w' w.heap.size (fun _ => True) v0_ r ∧ Below w.heap.size w w' := by
  unfold slices_CloneB.f at h
  by_cases hlim : l0.length < 5864062014805
  · rw [if_pos hlim] at h
    obtain rfl := Option.some.inj h
    have LM := Aside0.mk hlim
    clear hlim h
    have HR := Aside0.mk hr0
    clear hr0 hc0
    cases A0 with
    | none =>
      obtain rfl : l0 = [] := by
        have h1 := HR.out.2.2
        cases l0 with
        | nil => rfl
        | cons x xs =>
          obtain ⟨ad, h2, _⟩ := h1 (by simp)
          cases h2
      have hq := fun W : World => Go.Lib.run_eql_slice_nil_nil (P := Try.prog) W (t := 57) 0 c0 Try.underlying57
      go_enter Try.func89, Try.ntmps89
      go_wp2
      go_ret
      exact ⟨_, rfl, Kd.R_nil _ _ _ _ _, Below.refl _ _⟩
    | some ad =>
      have hq := fun W : World => Go.Lib.run_eql_slice_some_nil (P := Try.prog) W (t := 57) ad l0.length c0 Try.underlying57
      go_enter Try.func89, Try.ntmps89
      go_wp2_with (first | ((with_reducible refine gate_dst (N := 5) rfl ?_); refine Kd.R_lit k143 _ 143 ?hg (N := 5) ?hd (xs := ([] : List S143)) (inner := []) (ok := fun _ => True) (okp := fun _ => True) ?hr ?hp (fun _ hk => hk) trivial (Below.refl _ _) (Nat.le_refl _) (by simp) ?_; (case hd => rfl); (case hg => rfl); (case hr => first | (go_simp; done) | (go_simp; rfl)); (case hp => exact (Reps.none _ _)); intro v1 w1 ho1 hb1 hg_ hnew_; clear hg_ hnew_; have HB1 := Aside0.mk hb1; have HO1 := Aside0.mk ho1; clear hb1 ho1) | ((with_reducible refine gate_builtin (b := .append) (xs := #[.tmp 5, .tmp 6]) rfl ?_); at_builtin; refine Kd.R_append_rows k143 (w0 := w) w.heap.size rfl (.tmp 5) (.tmp 6) 57 143 (.agg #[(.int .i64 0), (.int .u64 0), (.int .i64 0)]) 24 rfl Try.underlying57 info143 rfl (by decide) (by omega) v1 [] l0 _ _ _ (fun _ => True) (fun _ => False) rfl rfl ?aO ?aR (fun _ _ h => h) (fun _ h => h.elim) ?aF ?aB ?aS ?aL ?_; (case aR => exact Kd.C_below HR.out HB1.out); (case aB => exact HB1.out); (case aF => exact (fun _ _ => trivial)); (case aO => exact HO1.out); (case aS => exact HB1.out.size); (case aL => have := LM.out; simp only [List.length_nil]; omega); intro v2 w2 ho hb hg hat; have HB2 := Aside0.mk hb; have HO2 := Aside0.mk ho; clear ho hb hg hat))
      go_ret
      exact ⟨_, rfl, by have := HO2.out; rwa [List.nil_append] at this, HB2.out⟩
  · rw [if_neg hlim] at h
    cases h
def slices_CloneE.f (l0 : List S128) : Option (List S128) := if l0.length < 4398046511104 then some l0 else none
set_option maxHeartbeats 400000 in
theorem slices_CloneE.calls (A0 : Option Addr) (c0 : Nat) (l0 : List S128) (r : List S128) (w : World) (hr0 : Kd.C k128 w A0 l0.length l0) (hc0 : l0.length ≤ c0) (h : slices_CloneE.f l0 = some r) :
    Calls Try.prog 90 #[.slice A0 l0.length c0] w fun e w' => ∃ v0_ : Value, e = .returned v0_ ∧ Kd.R k128 128 w' w.heap.size (fun _ => True) v0_ r ∧ Below w.heap.size w w' := by
  unfold slices_CloneE.f at h
  by_cases hlim : l0.length < 4398046511104
  · rw [if_pos hlim] at h
    obtain rfl := Option.some.inj h
    have LM := Aside0.mk hlim
    clear hlim h
    have HR := Aside0.mk hr0
    clear hr0 hc0
    cases A0 with
    | none =>
      obtain rfl : l0 = [] := by
        have h1 := HR.out.2.2
        cases l0 with
        | nil => rfl
        | cons x xs =>
          obtain ⟨ad, h2, _⟩ := h1 (by simp)
          cases h2
      have hq := fun W : World => Go.Lib.run_eql_slice_nil_nil (P := Try.prog) W (t := 33) 0 c0 Try.underlying33
      go_enter Try.func90, Try.ntmps90
      go_wp2
      go_ret
      exact ⟨_, rfl, Kd.R_nil _ _ _ _ _, Below.refl _ _⟩
    | some ad =>
      have hq := fun W : World => Go.Lib.run_eql_slice_some_nil (P := Try.prog) W (t := 33) ad l0.length c0 Try.underlying33
      go_enter Try.func90, Try.ntmps90
      go_wp2_with (first | ((with_reducible refine gate_dst (N := 5) rfl ?_); refine Kd.R_lit k128 _ 128 ?hg (N := 5) ?hd (xs := ([] : List S128)) (inner := []) (ok := fun _ => True) (okp := fun _ => True) ?hr ?hp (fun _ hk => hk) trivial (Below.refl _ _) (Nat.le_refl _) (by simp) ?_; (case hd => rfl); (case hg => rfl); (case hr => first | (go_simp; done) | (go_simp; rfl)); (case hp => exact (Reps.none _ _)); intro v1 w1 ho1 hb1 hg_ hnew_; clear hg_ hnew_; have HB1 := Aside0.mk hb1; have HO1 := Aside0.mk ho1; clear hb1 ho1) | ((with_reducible refine gate_builtin (b := .append) (xs := #[.tmp 5, .tmp 6]) rfl ?_); at_builtin; refine Kd.R_append_rows k128 (w0 := w) w.heap.size rfl (.tmp 5) (.tmp 6) 33 128 (.agg #[(.int .i64 0), (.int .i64 0), (.int .i64 0), (.bool false)]) 32 rfl Try.underlying33 info128 rfl (by decide) (by omega) v1 [] l0 _ _ _ (fun _ => True) (fun _ => False) rfl rfl ?aO ?aR (fun _ _ h => h) (fun _ h => h.elim) ?aF ?aB ?aS ?aL ?_; (case aR => exact Kd.C_below HR.out HB1.out); (case aB => exact HB1.out); (case aF => exact (fun _ _ => trivial)); (case aO => exact HO1.out); (case aS => exact HB1.out.size); (case aL => have := LM.out; simp only [List.length_nil]; omega); intro v2 w2 ho hb hg hat; have HB2 := Aside0.mk hb; have HO2 := Aside0.mk ho; clear ho hb hg hat))
      go_ret
      exact ⟨_, rfl, by have := HO2.out; rwa [List.nil_append] at this, HB2.out⟩
  · rw [if_neg hlim] at h
    cases h
/-! ### mem_may: function 84 -/
def mem_may.f (a0 : Int) : Option (Bool) := if a0 ≥ 0 then (some (decide (a0 ≤ 65536))) else (some false)
set_option maxHeartbeats 8000000 in
set_option maxRecDepth 100000 in
theorem mem_may.calls (a0 : Int) (r : Bool) (w : World) (h : mem_may.f a0 = some r) :
    Calls Try.prog 84 #[.int .i64 a0] w fun e w' => e = .returned (.bool r) ∧ Drawn0 w w' := by
  have H : (if a0 ≥ 0 then (some (decide (a0 ≤ 65536))) else (some false)) = some r := h
  clear h
  by_cases c2 : a0 ≥ 0
  · rw [if_pos c2] at H
    have c2b0 : decide (0 ≤ a0) = true := decide_eq_true c2
    clear c2
    obtain rfl := Option.some.inj H
    go_enter Try.func84, Try.ntmps84
    go_wp2
    go_ret
    exact ⟨by first | rfl | (simp; done) | (simp [*]; done), by repeat (first | exact Drawn0.refl _ | apply Drawn0.step)⟩
  · rw [if_neg c2] at H
    have c2b0 : decide (0 ≤ a0) = false := decide_eq_false c2
    clear c2
    obtain rfl := Option.some.inj H
    go_enter Try.func84, Try.ntmps84
    go_wp2
    go_ret
    exact ⟨by first | rfl | (simp; done) | (simp [*]; done), by repeat (first | exact Drawn0.refl _ | apply Drawn0.step)⟩
end Go.Proofs.Ytlcnckbmolefpaa.P
end
