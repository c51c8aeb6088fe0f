/- Walks and laws of several statements of this seat, joined into one text; no condition. -/
import Derived.Test.YtlcnckbmolefpaaProg
import Derived.Below
import Derived.Deep.Draws
import Derived.Deep.AppendLies
import Derived.Maps.AppendAt
import Derived.OwnWalk
import Derived.Laws.BytesArg
import Derived.Laws.MakeOwn
import Derived.Laws.OwnMore
import Derived.Deep.OwnRows
import Derived.Tactics
import Derived.Lib.ConvBytes
import Derived.Laws.Slices
import Derived.WalkKit
import Derived.KernelRfl
import Derived.RowKit3
import Derived.Deep.LoopGhost
import Derived.Deep.QuietTactic
import Derived.BigQuiet
import Derived.WideLaws
import Derived.Deep.DeepCutAuto
import Derived.Deep.CutBlock
import Derived.Deep.RegionHeld3
import Derived.Laws.Rows
import Derived.Lib.AppendStr
import Derived.ArgAppend
import Derived.Laws.IdiomCopy
import Derived.OrdersHeld
import Derived.Laws.BitsLemmas
import Derived.RowKit
import Derived.Laws.StructEq
import Derived.Maps.RangeWalk
import Derived.Maps.OwnRows
import Derived.Maps.Views
import Derived.Maps.OwnSet
import Derived.IntWalk
import Derived.Shelf.SlMaps.Clone
import Derived.Deep.RegionHeldLaw
import Derived.Test.YtlcnckbmolefpaaRTa0
section
namespace Go.Proofs.Ytlcnckbmolefpaa.P
open Go.RowKit Go.Proofs.YtlcnckbmolefpaaW.PrintWords Go.Proofs.YtlcnckbmolefpaaW.PrintLast Go.Proofs.YtlcnckbmolefpaaW.PrintMore
attribute [local go_sem] max2_int min2_int max_two min_two max_three min_three max_four min_four   -- for this text's walks alone
set_option linter.unusedVariables false
set_option linter.unusedSimpArgs false
def errW : Option Int → Value
  | none => .nilIface
  | some c => .iface 0 (.int .i64 c)
theorem errW_none : errW none = .nilIface := rfl
theorem errW_some (c : Int) : errW (some c) = .iface 0 (.int .i64 c) := rfl
theorem info3 : (Try.prog.info? 3).map (fun i => (i.zero, i.size, i.bytes)) = some (some (.int .i64 0), 1, 8) := by kernel_rfl
theorem info4 : (Try.prog.info? 4).map (fun i => (i.zero, i.size, i.bytes)) = some (some (.bool false), 1, 1) := by kernel_rfl
theorem info29 : (Try.prog.info? 29).map (fun i => (i.zero, i.size, i.bytes)) = some (some (.int .u64 0), 1, 8) := by kernel_rfl
theorem info38 : (Try.prog.info? 38).map (fun i => (i.zero, i.size, i.bytes)) = some (some (.slice none 0 0), 1, 24) := by kernel_rfl
theorem info127 : (Try.prog.info? 127).map (fun i => (i.zero, i.size, i.bytes)) = some (some (.agg #[(.int .i64 0), (.int .i64 0), (.int .i64 0), (.bool false)]), 4, 32) := by kernel_rfl
theorem info128 : (Try.prog.info? 128).map (fun i => (i.zero, i.size, i.bytes)) = some (some (.agg #[(.int .i64 0), (.int .i64 0), (.int .i64 0), (.bool false)]), 4, 32) := by kernel_rfl
theorem info140 : (Try.prog.info? 140).map (fun i => (i.zero, i.size, i.bytes)) = some (some (.agg #[(.int .i64 0), (.int .u64 0), (.int .i64 0)]), 3, 24) := by kernel_rfl
theorem info143 : (Try.prog.info? 143).map (fun i => (i.zero, i.size, i.bytes)) = some (some (.agg #[(.int .i64 0), (.int .u64 0), (.int .i64 0)]), 3, 24) := by kernel_rfl
-- the values' own types
def rd_L1 (xs : List (List Int)) (i : Int) : (List Int) := xs.getD i.toNat ([] : List Int)
theorem at_L1 {w : World} {A : Option Addr} {n : Nat} {xs : List (List Int)} (h : Kd.C (Kd.slice 3 (Kd.int .i64)) w A n xs) (i : Int) (h0 : 0 ≤ i) (h1 : i < n) : ∃ ad A0 c0, A = some ad ∧ w.cell? (ad.add i.toNat) = some (.slice A0 (rd_L1 xs i).length c0) ∧ (rd_L1 xs i).length ≤ c0 ∧ (Kd.int .i64).C w A0 (rd_L1 xs i).length (rd_L1 xs i) := by
  obtain ⟨ad, c, e, _, hK, hc0⟩ := Kd.C_get h ([] : List Int) i h0 h1
  have hc : ∀ j u, c[j]? = some u → w.cell? (ad.add (i.toNat * 1 + j)) = some u := hc0
  obtain ⟨A0, c0, rfl, l0, g0⟩ := hK
  exact ⟨ad, A0, c0, e, by have hq := hc 0 _ rfl; rwa [Nat.mul_one, Nat.add_zero] at hq, l0, g0⟩
/-! #### struct type 127 -/
structure S127 where
  f0 : Int
  f1 : Int
  f2 : Int
  f3 : Bool
def z127 : S127 := ⟨(0 : Int), (0 : Int), (0 : Int), false⟩
def k127 : Kd S127 := Kd.iso (Kd.pair (Kd.int .i64) (Kd.pair (Kd.int .i64) (Kd.pair (Kd.int .i64) Kd.bool))) (fun x : S127 => (x.f0, x.f1, x.f2, x.f3))
theorem k127_open {w : World} {x : S127} {cs : List Value} (h : k127.K w x cs) : cs = [.int .i64 x.f0, .int .i64 x.f1, .int .i64 x.f2, .bool x.f3] := by
  obtain ⟨_, _, rfl, rfl, ⟨_, _, rfl, rfl, ⟨_, _, rfl, rfl, rfl⟩⟩⟩ := h
  exact rfl
theorem k127_openM {w : World} {base : Nat} {ok : Nat → Prop} {x : S127} {cs : List Value} (h : k127.M w base ok x cs) : cs = [.int .i64 x.f0, .int .i64 x.f1, .int .i64 x.f2, .bool x.f3] := by
  obtain ⟨_, _, rfl, rfl, ⟨_, _, rfl, rfl, ⟨_, _, rfl, rfl, rfl⟩⟩⟩ := h
  exact rfl
theorem k127_mk (w : World) (x : S127)  : k127.K w x [.int .i64 x.f0, .int .i64 x.f1, .int .i64 x.f2, .bool x.f3] := ⟨[.int .i64 x.f0], [.int .i64 x.f1, .int .i64 x.f2, .bool x.f3], rfl, rfl, ⟨[.int .i64 x.f1], [.int .i64 x.f2, .bool x.f3], rfl, rfl, ⟨[.int .i64 x.f2], [.bool x.f3], rfl, rfl, rfl⟩⟩⟩
theorem k127_mkM (w : World) (base : Nat) (ok : Nat → Prop) (x : S127)  : k127.M w base ok x [.int .i64 x.f0, .int .i64 x.f1, .int .i64 x.f2, .bool x.f3] := ⟨[.int .i64 x.f0], [.int .i64 x.f1, .int .i64 x.f2, .bool x.f3], rfl, rfl, ⟨[.int .i64 x.f1], [.int .i64 x.f2, .bool x.f3], rfl, rfl, ⟨[.int .i64 x.f2], [.bool x.f3], rfl, rfl, rfl⟩⟩⟩
def rd_T127 (xs : List S127) (i : Int) : S127 := xs.getD i.toNat z127
theorem at_T127 {w : World} {A : Option Addr} {n : Nat} {xs : List S127} (h : Kd.C k127 w A n xs) (i : Int) (h0 : 0 ≤ i) (h1 : i < n) : ∃ ad , A = some ad ∧ w.cell? (ad.add (i.toNat * 4)) = some (.int .i64 (rd_T127 xs i).f0) ∧ w.cell? ⟨(ad.add (i.toNat * 4)).block, (ad.add (i.toNat * 4)).off + 1, none⟩ = some (.int .i64 (rd_T127 xs i).f1) ∧ w.cell? ⟨(ad.add (i.toNat * 4)).block, (ad.add (i.toNat * 4)).off + 2, none⟩ = some (.int .i64 (rd_T127 xs i).f2) ∧ w.cell? ⟨(ad.add (i.toNat * 4)).block, (ad.add (i.toNat * 4)).off + 3, none⟩ = some (.bool (rd_T127 xs i).f3) := by
  obtain ⟨ad, c, e, _, hK, hc0⟩ := Kd.C_get h z127 i h0 h1
  have hc : ∀ j u, c[j]? = some u → w.cell? (ad.add (i.toNat * 4 + j)) = some u := hc0
  obtain rfl := k127_open hK
  exact ⟨ad, e, hc 0 _ rfl, by rw [← add_field _ _ 1 (by omega)]; exact hc 1 _ rfl, by rw [← add_field _ _ 2 (by omega)]; exact hc 2 _ rfl, by rw [← add_field _ _ 3 (by omega)]; exact hc 3 _ rfl⟩
/-! #### struct type 128 -/
structure S128 where
  f0 : Int
  f1 : Int
  f2 : Int
  f3 : Bool
def z128 : S128 := ⟨(0 : Int), (0 : Int), (0 : Int), false⟩
def k128 : Kd S128 := Kd.iso (Kd.pair (Kd.int .i64) (Kd.pair (Kd.int .i64) (Kd.pair (Kd.int .i64) Kd.bool))) (fun x : S128 => (x.f0, x.f1, x.f2, x.f3))
theorem k128_open {w : World} {x : S128} {cs : List Value} (h : k128.K w x cs) : cs = [.int .i64 x.f0, .int .i64 x.f1, .int .i64 x.f2, .bool x.f3] := by
  obtain ⟨_, _, rfl, rfl, ⟨_, _, rfl, rfl, ⟨_, _, rfl, rfl, rfl⟩⟩⟩ := h
  exact rfl
theorem k128_openM {w : World} {base : Nat} {ok : Nat → Prop} {x : S128} {cs : List Value} (h : k128.M w base ok x cs) : cs = [.int .i64 x.f0, .int .i64 x.f1, .int .i64 x.f2, .bool x.f3] := by
  obtain ⟨_, _, rfl, rfl, ⟨_, _, rfl, rfl, ⟨_, _, rfl, rfl, rfl⟩⟩⟩ := h
  exact rfl
theorem k128_mk (w : World) (x : S128)  : k128.K w x [.int .i64 x.f0, .int .i64 x.f1, .int .i64 x.f2, .bool x.f3] := ⟨[.int .i64 x.f0], [.int .i64 x.f1, .int .i64 x.f2, .bool x.f3], rfl, rfl, ⟨[.int .i64 x.f1], [.int .i64 x.f2, .bool x.f3], rfl, rfl, ⟨[.int .i64 x.f2], [.bool x.f3], rfl, rfl, rfl⟩⟩⟩
theorem k128_mkM (w : World) (base : Nat) (ok : Nat → Prop) (x : S128)  : k128.M w base ok x [.int .i64 x.f0, .int .i64 x.f1, .int .i64 x.f2, .bool x.f3] := ⟨[.int .i64 x.f0], [.int .i64 x.f1, .int .i64 x.f2, .bool x.f3], rfl, rfl, ⟨[.int .i64 x.f1], [.int .i64 x.f2, .bool x.f3], rfl, rfl, ⟨[.int .i64 x.f2], [.bool x.f3], rfl, rfl, rfl⟩⟩⟩
def rd_T128 (xs : List S128) (i : Int) : S128 := xs.getD i.toNat z128
theorem at_T128 {w : World} {A : Option Addr} {n : Nat} {xs : List S128} (h : Kd.C k128 w A n xs) (i : Int) (h0 : 0 ≤ i) (h1 : i < n) : ∃ ad , A = some ad ∧ w.cell? (ad.add (i.toNat * 4)) = some (.int .i64 (rd_T128 xs i).f0) ∧ w.cell? ⟨(ad.add (i.toNat * 4)).block, (ad.add (i.toNat * 4)).off + 1, none⟩ = some (.int .i64 (rd_T128 xs i).f1) ∧ w.cell? ⟨(ad.add (i.toNat * 4)).block, (ad.add (i.toNat * 4)).off + 2, none⟩ = some (.int .i64 (rd_T128 xs i).f2) ∧ w.cell? ⟨(ad.add (i.toNat * 4)).block, (ad.add (i.toNat * 4)).off + 3, none⟩ = some (.bool (rd_T128 xs i).f3) := by
  obtain ⟨ad, c, e, _, hK, hc0⟩ := Kd.C_get h z128 i h0 h1
  have hc : ∀ j u, c[j]? = some u → w.cell? (ad.add (i.toNat * 4 + j)) = some u := hc0
  obtain rfl := k128_open hK
  exact ⟨ad, e, hc 0 _ rfl, by rw [← add_field _ _ 1 (by omega)]; exact hc 1 _ rfl, by rw [← add_field _ _ 2 (by omega)]; exact hc 2 _ rfl, by rw [← add_field _ _ 3 (by omega)]; exact hc 3 _ rfl⟩
def rd_L5 (xs : List (List Bool)) (i : Int) : (List Bool) := xs.getD i.toNat ([] : List Bool)
theorem at_L5 {w : World} {A : Option Addr} {n : Nat} {xs : List (List Bool)} (h : Kd.C (Kd.slice 4 Kd.bool) w A n xs) (i : Int) (h0 : 0 ≤ i) (h1 : i < n) : ∃ ad A0 c0, A = some ad ∧ w.cell? (ad.add i.toNat) = some (.slice A0 (rd_L5 xs i).length c0) ∧ (rd_L5 xs i).length ≤ c0 ∧ Kd.bool.C w A0 (rd_L5 xs i).length (rd_L5 xs i) := by
  obtain ⟨ad, c, e, _, hK, hc0⟩ := Kd.C_get h ([] : List Bool) i h0 h1
  have hc : ∀ j u, c[j]? = some u → w.cell? (ad.add (i.toNat * 1 + j)) = some u := hc0
  obtain ⟨A0, c0, rfl, l0, g0⟩ := hK
  exact ⟨ad, A0, c0, e, by have hq := hc 0 _ rfl; rwa [Nat.mul_one, Nat.add_zero] at hq, l0, g0⟩
def rd_L6 (xs : List (List S128)) (i : Int) : (List S128) := xs.getD i.toNat ([] : List S128)
theorem at_L6 {w : World} {A : Option Addr} {n : Nat} {xs : List (List S128)} (h : Kd.C (Kd.slice 128 k128) w A n xs) (i : Int) (h0 : 0 ≤ i) (h1 : i < n) : ∃ ad A0 c0, A = some ad ∧ w.cell? (ad.add i.toNat) = some (.slice A0 (rd_L6 xs i).length c0) ∧ (rd_L6 xs i).length ≤ c0 ∧ k128.C w A0 (rd_L6 xs i).length (rd_L6 xs i) := by
  obtain ⟨ad, c, e, _, hK, hc0⟩ := Kd.C_get h ([] : List S128) i h0 h1
  have hc : ∀ j u, c[j]? = some u → w.cell? (ad.add (i.toNat * 1 + j)) = some u := hc0
  obtain ⟨A0, c0, rfl, l0, g0⟩ := hK
  exact ⟨ad, A0, c0, e, by have hq := hc 0 _ rfl; rwa [Nat.mul_one, Nat.add_zero] at hq, l0, g0⟩
def rd_L7 (xs : List (List S127)) (i : Int) : (List S127) := xs.getD i.toNat ([] : List S127)
theorem at_L7 {w : World} {A : Option Addr} {n : Nat} {xs : List (List S127)} (h : Kd.C (Kd.slice 127 k127) w A n xs) (i : Int) (h0 : 0 ≤ i) (h1 : i < n) : ∃ ad A0 c0, A = some ad ∧ w.cell? (ad.add i.toNat) = some (.slice A0 (rd_L7 xs i).length c0) ∧ (rd_L7 xs i).length ≤ c0 ∧ k127.C w A0 (rd_L7 xs i).length (rd_L7 xs i) := by
  obtain ⟨ad, c, e, _, hK, hc0⟩ := Kd.C_get h ([] : List S127) i h0 h1
  have hc : ∀ j u, c[j]? = some u → w.cell? (ad.add (i.toNat * 1 + j)) = some u := hc0
  obtain ⟨A0, c0, rfl, l0, g0⟩ := hK
  exact ⟨ad, A0, c0, e, by have hq := hc 0 _ rfl; rwa [Nat.mul_one, Nat.add_zero] at hq, l0, g0⟩
/-! #### struct type 140 -/
structure S140 where
  f0 : Int
  f1 : Int
  f2 : Int
def z140 : S140 := ⟨(0 : Int), (0 : Int), (0 : Int)⟩
def k140 : Kd S140 := Kd.iso (Kd.pair (Kd.int .i64) (Kd.pair (Kd.int .u64) (Kd.int .i64))) (fun x : S140 => (x.f0, x.f1, x.f2))
theorem k140_open {w : World} {x : S140} {cs : List Value} (h : k140.K w x cs) : cs = [.int .i64 x.f0, .int .u64 x.f1, .int .i64 x.f2] := by
  obtain ⟨_, _, rfl, rfl, ⟨_, _, rfl, rfl, rfl⟩⟩ := h
  exact rfl
theorem k140_openM {w : World} {base : Nat} {ok : Nat → Prop} {x : S140} {cs : List Value} (h : k140.M w base ok x cs) : cs = [.int .i64 x.f0, .int .u64 x.f1, .int .i64 x.f2] := by
  obtain ⟨_, _, rfl, rfl, ⟨_, _, rfl, rfl, rfl⟩⟩ := h
  exact rfl
theorem k140_mk (w : World) (x : S140)  : k140.K w x [.int .i64 x.f0, .int .u64 x.f1, .int .i64 x.f2] := ⟨[.int .i64 x.f0], [.int .u64 x.f1, .int .i64 x.f2], rfl, rfl, ⟨[.int .u64 x.f1], [.int .i64 x.f2], rfl, rfl, rfl⟩⟩
theorem k140_mkM (w : World) (base : Nat) (ok : Nat → Prop) (x : S140)  : k140.M w base ok x [.int .i64 x.f0, .int .u64 x.f1, .int .i64 x.f2] := ⟨[.int .i64 x.f0], [.int .u64 x.f1, .int .i64 x.f2], rfl, rfl, ⟨[.int .u64 x.f1], [.int .i64 x.f2], rfl, rfl, rfl⟩⟩
def rd_T140 (xs : List S140) (i : Int) : S140 := xs.getD i.toNat z140
theorem at_T140 {w : World} {A : Option Addr} {n : Nat} {xs : List S140} (h : Kd.C k140 w A n xs) (i : Int) (h0 : 0 ≤ i) (h1 : i < n) : ∃ ad , A = some ad ∧ w.cell? (ad.add (i.toNat * 3)) = some (.int .i64 (rd_T140 xs i).f0) ∧ w.cell? ⟨(ad.add (i.toNat * 3)).block, (ad.add (i.toNat * 3)).off + 1, none⟩ = some (.int .u64 (rd_T140 xs i).f1) ∧ w.cell? ⟨(ad.add (i.toNat * 3)).block, (ad.add (i.toNat * 3)).off + 2, none⟩ = some (.int .i64 (rd_T140 xs i).f2) := by
  obtain ⟨ad, c, e, _, hK, hc0⟩ := Kd.C_get h z140 i h0 h1
  have hc : ∀ j u, c[j]? = some u → w.cell? (ad.add (i.toNat * 3 + j)) = some u := hc0
  obtain rfl := k140_open hK
  exact ⟨ad, e, hc 0 _ rfl, by rw [← add_field _ _ 1 (by omega)]; exact hc 1 _ rfl, by rw [← add_field _ _ 2 (by omega)]; exact hc 2 _ rfl⟩
/-! #### struct type 143 -/
structure S143 where
  f0 : Int
  f1 : Int
  f2 : Int
def z143 : S143 := ⟨(0 : Int), (0 : Int), (0 : Int)⟩
def k143 : Kd S143 := Kd.iso (Kd.pair (Kd.int .i64) (Kd.pair (Kd.int .u64) (Kd.int .i64))) (fun x : S143 => (x.f0, x.f1, x.f2))
theorem k143_open {w : World} {x : S143} {cs : List Value} (h : k143.K w x cs) : cs = [.int .i64 x.f0, .int .u64 x.f1, .int .i64 x.f2] := by
  obtain ⟨_, _, rfl, rfl, ⟨_, _, rfl, rfl, rfl⟩⟩ := h
  exact rfl
theorem k143_openM {w : World} {base : Nat} {ok : Nat → Prop} {x : S143} {cs : List Value} (h : k143.M w base ok x cs) : cs = [.int .i64 x.f0, .int .u64 x.f1, .int .i64 x.f2] := by
  obtain ⟨_, _, rfl, rfl, ⟨_, _, rfl, rfl, rfl⟩⟩ := h
  exact rfl
theorem k143_mk (w : World) (x : S143)  : k143.K w x [.int .i64 x.f0, .int .u64 x.f1, .int .i64 x.f2] := ⟨[.int .i64 x.f0], [.int .u64 x.f1, .int .i64 x.f2], rfl, rfl, ⟨[.int .u64 x.f1], [.int .i64 x.f2], rfl, rfl, rfl⟩⟩
theorem k143_mkM (w : World) (base : Nat) (ok : Nat → Prop) (x : S143)  : k143.M w base ok x [.int .i64 x.f0, .int .u64 x.f1, .int .i64 x.f2] := ⟨[.int .i64 x.f0], [.int .u64 x.f1, .int .i64 x.f2], rfl, rfl, ⟨[.int .u64 x.f1], [.int .i64 x.f2], rfl, rfl, rfl⟩⟩
def rd_T143 (xs : List S143) (i : Int) : S143 := xs.getD i.toNat z143
theorem at_T143 {w : World} {A : Option Addr} {n : Nat} {xs : List S143} (h : Kd.C k143 w A n xs) (i : Int) (h0 : 0 ≤ i) (h1 : i < n) : ∃ ad , A = some ad ∧ w.cell? (ad.add (i.toNat * 3)) = some (.int .i64 (rd_T143 xs i).f0) ∧ w.cell? ⟨(ad.add (i.toNat * 3)).block, (ad.add (i.toNat * 3)).off + 1, none⟩ = some (.int .u64 (rd_T143 xs i).f1) ∧ w.cell? ⟨(ad.add (i.toNat * 3)).block, (ad.add (i.toNat * 3)).off + 2, none⟩ = some (.int .i64 (rd_T143 xs i).f2) := by
  obtain ⟨ad, c, e, _, hK, hc0⟩ := Kd.C_get h z143 i h0 h1
  have hc : ∀ j u, c[j]? = some u → w.cell? (ad.add (i.toNat * 3 + j)) = some u := hc0
  obtain rfl := k143_open hK
  exact ⟨ad, e, hc 0 _ rfl, by rw [← add_field _ _ 1 (by omega)]; exact hc 1 _ rfl, by rw [← add_field _ _ 2 (by omega)]; exact hc 2 _ rfl⟩
def rd_L11 (xs : List (List S140)) (i : Int) : (List S140) := xs.getD i.toNat ([] : List S140)
theorem at_L11 {w : World} {A : Option Addr} {n : Nat} {xs : List (List S140)} (h : Kd.C (Kd.slice 140 k140) w A n xs) (i : Int) (h0 : 0 ≤ i) (h1 : i < n) : ∃ ad A0 c0, A = some ad ∧ w.cell? (ad.add i.toNat) = some (.slice A0 (rd_L11 xs i).length c0) ∧ (rd_L11 xs i).length ≤ c0 ∧ k140.C w A0 (rd_L11 xs i).length (rd_L11 xs i) := by
  obtain ⟨ad, c, e, _, hK, hc0⟩ := Kd.C_get h ([] : List S140) i h0 h1
  have hc : ∀ j u, c[j]? = some u → w.cell? (ad.add (i.toNat * 1 + j)) = some u := hc0
  obtain ⟨A0, c0, rfl, l0, g0⟩ := hK
  exact ⟨ad, A0, c0, e, by have hq := hc 0 _ rfl; rwa [Nat.mul_one, Nat.add_zero] at hq, l0, g0⟩
/-! #### struct type 28 -/
structure S28 where
  f0 : Int
  f1 : Int
def z28 : S28 := ⟨(0 : Int), (0 : Int)⟩
def k28 : Kd S28 := Kd.iso (Kd.pair (Kd.int .i64) (Kd.int .i64)) (fun x : S28 => (x.f0, x.f1))
theorem k28_open {w : World} {x : S28} {cs : List Value} (h : k28.K w x cs) : cs = [.int .i64 x.f0, .int .i64 x.f1] := by
  obtain ⟨_, _, rfl, rfl, rfl⟩ := h
  exact rfl
theorem k28_openM {w : World} {base : Nat} {ok : Nat → Prop} {x : S28} {cs : List Value} (h : k28.M w base ok x cs) : cs = [.int .i64 x.f0, .int .i64 x.f1] := by
  obtain ⟨_, _, rfl, rfl, rfl⟩ := h
  exact rfl
theorem k28_mk (w : World) (x : S28)  : k28.K w x [.int .i64 x.f0, .int .i64 x.f1] := ⟨[.int .i64 x.f0], [.int .i64 x.f1], rfl, rfl, rfl⟩
theorem k28_mkM (w : World) (base : Nat) (ok : Nat → Prop) (x : S28)  : k28.M w base ok x [.int .i64 x.f0, .int .i64 x.f1] := ⟨[.int .i64 x.f0], [.int .i64 x.f1], rfl, rfl, rfl⟩
def rd_T28 (xs : List S28) (i : Int) : S28 := xs.getD i.toNat z28
theorem at_T28 {w : World} {A : Option Addr} {n : Nat} {xs : List S28} (h : Kd.C k28 w A n xs) (i : Int) (h0 : 0 ≤ i) (h1 : i < n) : ∃ ad , A = some ad ∧ w.cell? (ad.add (i.toNat * 2)) = some (.int .i64 (rd_T28 xs i).f0) ∧ w.cell? ⟨(ad.add (i.toNat * 2)).block, (ad.add (i.toNat * 2)).off + 1, none⟩ = some (.int .i64 (rd_T28 xs i).f1) := by
  obtain ⟨ad, c, e, _, hK, hc0⟩ := Kd.C_get h z28 i h0 h1
  have hc : ∀ j u, c[j]? = some u → w.cell? (ad.add (i.toNat * 2 + j)) = some u := hc0
  obtain rfl := k28_open hK
  exact ⟨ad, e, hc 0 _ rfl, by rw [← add_field _ _ 1 (by omega)]; exact hc 1 _ rfl⟩
end Go.Proofs.Ytlcnckbmolefpaa.P
end
section
set_option linter.unusedVariables false
namespace Go.Proofs.Ytlcnckbmolefpaa.CK
structure Ev where
  who : Int
  kind : Int
  at_ : Int
  ok : Bool
abbrev T := Int → Int
def valid (e : Ev) : Prop := 0 ≤ e.kind ∧ e.kind ≤ 7
instance (e : Ev) : Decidable (valid e) := inferInstanceAs (Decidable (_ ∧ _))
def stores (e : Ev) : Prop := e.kind = 1
instance (e : Ev) : Decidable (stores e) := inferInstanceAs (Decidable (_ = _))
def frees (e : Ev) : Prop := (e.kind = 5 ∨ e.kind = 6) ∧ e.ok = true
instance (e : Ev) : Decidable (frees e) := inferInstanceAs (Decidable (_ ∧ _))
def upd {α : Type} (f : Int → α) (k : Int) (v : α) : Int → α := fun x => if x = k then v else f x
def joinT (a b : T) : T := fun x => max (a x) (b x)
def zeroT : T := fun _ => 0
structure St where
  C : Int → T
  W : Int → T
  L : Int → T
def st0 : St := ⟨fun _ => zeroT, fun _ => zeroT, fun _ => zeroT⟩
def c1 (s : St) (e : Ev) : T := if e.kind = 0 then joinT (s.C e.who) (s.W e.at_) else if e.kind = 4 ∧ e.ok = true then joinT (s.C e.who) (s.L e.at_) else s.C e.who
def c2 (s : St) (e : Ev) : T := upd (c1 s e) e.who (c1 s e e.who + 1)
def stepS (s : St) (e : Ev) : St :=
  if valid e then ⟨upd s.C e.who (c2 s e), if stores e then upd s.W e.at_ (c2 s e) else s.W, if frees e then upd s.L e.at_ (joinT (c2 s e) (s.L e.at_)) else s.L⟩ else s
def outS (s : St) (e : Ev) : Int × T := if valid e then (c2 s e e.who, c2 s e) else (0, zeroT)
section
variable (g : Nat → Ev)
def S : Nat → St
  | 0 => st0
  | n + 1 => stepS (S n) (g n)
def seenAt (n : Nat) : Int × T := outS (S g n) (g n)
def stp (i j : Nat) : Prop := i < j ∧ valid (g i) ∧ valid (g j) ∧ ((g i).who = (g j).who ∨ (g i).at_ = (g j).at_ ∧
  ((stores (g i) ∧ (g j).kind = 0 ∧ ∀ k, i < k → k < j → ¬ (stores (g k) ∧ (g k).at_ = (g i).at_)) ∨ (frees (g i) ∧ (g j).kind = 4 ∧ (g j).ok = true)))
inductive hb : Nat → Nat → Prop
  | one {i j : Nat} : stp g i j → hb i j
  | more {i k j : Nat} : hb i k → stp g k j → hb i j
def cnt : Nat → Int → Int
  | 0, _ => 0
  | n + 1, p => if valid (g n) ∧ (g n).who = p then cnt n p + 1 else cnt n p
variable {g}
theorem hb_lt {i j : Nat} (h : hb g i j) : i < j := by
  induction h with
  | one h => exact h.1
  | more _ h ih => have := h.1; omega
theorem hb_left {i j : Nat} (h : hb g i j) : valid (g i) := by
  induction h with
  | one h => exact h.2.1
  | more _ h ih => exact ih
theorem hb_right {i j : Nat} (h : hb g i j) : valid (g j) := by
  cases h with
  | one h => exact h.2.2.1
  | more _ h => exact h.2.2.1
theorem hb_last {i j : Nat} : hb g i j ↔ ∃ k, stp g k j ∧ (i = k ∨ hb g i k) := by
  constructor
  · intro h
    cases h with
    | one s => exact ⟨i, s, Or.inl rfl⟩
    | more h s => exact ⟨_, s, Or.inr h⟩
  · rintro ⟨k, s, rfl | h⟩
    · exact .one s
    · exact .more h s
theorem cnt_step (n : Nat) (p : Int) : cnt g n p ≤ cnt g (n + 1) p ∧ cnt g (n + 1) p ≤ cnt g n p + 1 := by
  have e : cnt g (n + 1) p = if valid (g n) ∧ (g n).who = p then cnt g n p + 1 else cnt g n p := rfl
  rw [e]; split <;> omega
theorem cnt_mono {n m : Nat} (h : n ≤ m) (p : Int) : cnt g n p ≤ cnt g m p := by
  induction h with
  | refl => exact Int.le_refl _
  | step _ ih => exact Int.le_trans ih (cnt_step _ p).1
theorem cnt_nonneg (n : Nat) (p : Int) : 0 ≤ cnt g n p := cnt_mono (g := g) (Nat.zero_le n) p
theorem cnt_self {n : Nat} (h : valid (g n)) : cnt g (n + 1) (g n).who = cnt g n (g n).who + 1 := if_pos ⟨h, rfl⟩
variable (g) in
def own (i : Nat) : Int := cnt g (i + 1) (g i).who
structure Known (n : Nat) (t : T) (K : Nat → Prop) : Prop where
  lo : ∀ q, 0 ≤ t q
  hi : ∀ q, t q ≤ cnt g n q
  iff : ∀ i, i < n → valid (g i) → (own g i ≤ t (g i).who ↔ K i)
theorem Known.join {n : Nat} {a b : T} {A B : Nat → Prop} (h : Known (g := g) n a A) (k : Known (g := g) n b B) : Known (g := g) n (joinT a b) (fun i => A i ∨ B i) := by
  refine ⟨fun q => ?_, fun q => ?_, fun i hi hv => ?_⟩
  · have := h.lo q; show 0 ≤ max (a q) (b q); omega
  · have := h.hi q; have := k.hi q; show max (a q) (b q) ≤ _; omega
  · rw [← h.iff i hi hv, ← k.iff i hi hv]
    show own g i ≤ max (a _) (b _) ↔ _
    omega
theorem Known.congr {n : Nat} {a : T} {A B : Nat → Prop} (h : Known (g := g) n a A) (k : ∀ i, i < n → valid (g i) → (A i ↔ B i)) : Known (g := g) n a B :=
  ⟨h.lo, h.hi, fun i hi hv => (h.iff i hi hv).trans (k i hi hv)⟩
theorem Known.next {n : Nat} {a : T} {A B : Nat → Prop} (h : Known (g := g) n a A) (k : ∀ i, i < n → valid (g i) → (A i ↔ B i)) (hn : ¬ B n) : Known (g := g) (n + 1) a B := by
  refine ⟨h.lo, fun q => Int.le_trans (h.hi q) (cnt_step n q).1, fun i hi hv => ?_⟩
  rcases Nat.lt_or_ge i n with c | c
  · exact (h.iff i c hv).trans (k i c hv)
  · obtain rfl : i = n := by omega
    have := h.hi (g i).who
    have := cnt_self hv
    constructor
    · intro q; unfold own at q; omega
    · intro q; exact absurd q hn
variable (g) in
def KC (n : Nat) (p : Int) (i : Nat) : Prop := ∃ k, k < n ∧ valid (g k) ∧ (g k).who = p ∧ (i = k ∨ hb g i k)
variable (g) in
def KW (n : Nat) (a : Int) (i : Nat) : Prop := ∃ k, k < n ∧ stores (g k) ∧ (g k).at_ = a ∧ (∀ m, k < m → m < n → ¬ (stores (g m) ∧ (g m).at_ = a)) ∧ (i = k ∨ hb g i k)
variable (g) in
def KL (n : Nat) (a : Int) (i : Nat) : Prop := ∃ k, k < n ∧ frees (g k) ∧ (g k).at_ = a ∧ (i = k ∨ hb g i k)
variable (g) in
structure Inv (n : Nat) : Prop where
  C : ∀ p, Known (g := g) n ((S g n).C p) (KC g n p)
  me : ∀ p, (S g n).C p p = cnt g n p
  W : ∀ a, Known (g := g) n ((S g n).W a) (KW g n a)
  L : ∀ a, Known (g := g) n ((S g n).L a) (KL g n a)
theorem inv_zero : Inv g 0 := by
  refine ⟨fun p => ?_, fun p => rfl, fun a => ?_, fun a => ?_⟩ <;> exact ⟨fun q => Int.le_refl _, fun q => Int.le_refl _, fun i hi => absurd hi (Nat.not_lt_zero _)⟩
theorem stores_valid {e : Ev} (h : stores e) : valid e := by unfold stores at h; unfold valid; omega
theorem frees_valid {e : Ev} (h : frees e) : valid e := by unfold frees at h; unfold valid; omega
theorem known_c1 {n : Nat} (I : Inv g n) (hv : valid (g n)) : Known (g := g) n (c1 (S g n) (g n)) (fun i => hb g i n) := by
  have same : ∀ i, KC g n (g n).who i → hb g i n := by
    rintro i ⟨k, h1, h2, h3, h4⟩
    exact hb_last.2 ⟨k, ⟨h1, h2, hv, Or.inl h3⟩, h4⟩
  unfold c1
  by_cases z0 : (g n).kind = 0
  · rw [if_pos z0]
    refine ((I.C _).join (I.W _)).congr fun i hi vi => ⟨?_, fun h => ?_⟩
    · rintro (h | ⟨k, h1, h2, h3, h4, h5⟩)
      · exact same i h
      · exact hb_last.2 ⟨k, ⟨h1, stores_valid h2, hv, Or.inr ⟨h3, Or.inl ⟨h2, z0, fun m a b => h3 ▸ h4 m a b⟩⟩⟩, h5⟩
    · obtain ⟨k, ⟨s1, s2, s3, s4⟩, hk⟩ := hb_last.1 h
      rcases s4 with s4 | ⟨s4, ⟨s5, s6, s7⟩ | ⟨s5, s6, s7⟩⟩
      · exact Or.inl ⟨k, s1, s2, s4, hk⟩
      · exact Or.inr ⟨k, s1, s5, s4, fun m a b => s4 ▸ s7 m a b, hk⟩
      · omega
  · rw [if_neg z0]
    by_cases z4 : (g n).kind = 4 ∧ (g n).ok = true
    · rw [if_pos z4]
      refine ((I.C _).join (I.L _)).congr fun i hi vi => ⟨?_, fun h => ?_⟩
      · rintro (h | ⟨k, h1, h2, h3, h5⟩)
        · exact same i h
        · exact hb_last.2 ⟨k, ⟨h1, frees_valid h2, hv, Or.inr ⟨h3, Or.inr ⟨h2, z4.1, z4.2⟩⟩⟩, h5⟩
      · obtain ⟨k, ⟨s1, s2, s3, s4⟩, hk⟩ := hb_last.1 h
        rcases s4 with s4 | ⟨s4, ⟨s5, s6, s7⟩ | ⟨s5, s6, s7⟩⟩
        · exact Or.inl ⟨k, s1, s2, s4, hk⟩
        · exact absurd s6 z0
        · exact Or.inr ⟨k, s1, s5, s4, hk⟩
    · rw [if_neg z4]
      refine (I.C _).congr fun i hi vi => ⟨same i, fun h => ?_⟩
      obtain ⟨k, ⟨s1, s2, s3, s4⟩, hk⟩ := hb_last.1 h
      rcases s4 with s4 | ⟨s4, ⟨s5, s6, s7⟩ | ⟨s5, s6, s7⟩⟩
      · exact ⟨k, s1, s2, s4, hk⟩
      · exact absurd s6 z0
      · exact absurd ⟨s6, s7⟩ z4
theorem c1_me {n : Nat} (I : Inv g n) : c1 (S g n) (g n) (g n).who = cnt g n (g n).who := by
  unfold c1
  have h := I.me (g n).who
  have hw := (I.W (g n).at_).hi (g n).who
  have hl := (I.L (g n).at_).hi (g n).who
  split
  · show max _ _ = _; omega
  · split
    · show max _ _ = _; omega
    · exact h
theorem c2_me {n : Nat} (I : Inv g n) (hv : valid (g n)) : c2 (S g n) (g n) (g n).who = own g n := by
  have : c2 (S g n) (g n) (g n).who = c1 (S g n) (g n) (g n).who + 1 := if_pos rfl
  rw [this, c1_me I]; exact (cnt_self hv).symm
theorem known_c2 {n : Nat} (I : Inv g n) (hv : valid (g n)) : Known (g := g) (n + 1) (c2 (S g n) (g n)) (fun i => i = n ∨ hb g i n) := by
  have K := known_c1 I hv
  have me := c2_me I hv
  have other : ∀ q, q ≠ (g n).who → c2 (S g n) (g n) q = c1 (S g n) (g n) q := fun q hq => if_neg hq
  refine ⟨fun q => ?_, fun q => ?_, fun i hi vi => ?_⟩
  · by_cases c : q = (g n).who
    · rw [c, me]; exact cnt_nonneg _ _
    · rw [other q c]; exact K.lo q
  · by_cases c : q = (g n).who
    · rw [c, me]; exact Int.le_refl _
    · rw [other q c]; exact Int.le_trans (K.hi q) (cnt_step n q).1
  · rcases Nat.lt_or_ge i n with c | c
    · by_cases d : (g i).who = (g n).who
      · rw [d, me]
        constructor
        · intro _; exact Or.inr (.one ⟨c, vi, hv, Or.inl d⟩)
        · intro _; unfold own; rw [d]; exact cnt_mono (by omega) _
      · rw [other _ d, K.iff i c vi]
        exact ⟨Or.inr, fun h => h.resolve_left (by omega)⟩
    · obtain rfl : i = n := by omega
      rw [me]
      exact ⟨fun _ => Or.inl rfl, fun _ => Int.le_refl _⟩
theorem inv_next {n : Nat} (I : Inv g n) : Inv g (n + 1) := by
  by_cases hv : valid (g n)
  · have K2 := known_c2 I hv
    have e : S g (n + 1) = ⟨upd (S g n).C (g n).who (c2 (S g n) (g n)), if stores (g n) then upd (S g n).W (g n).at_ (c2 (S g n) (g n)) else (S g n).W, if frees (g n) then upd (S g n).L (g n).at_ (joinT (c2 (S g n) (g n)) ((S g n).L (g n).at_)) else (S g n).L⟩ := if_pos hv
    refine ⟨fun p => ?_, fun p => ?_, fun a => ?_, fun a => ?_⟩
    · rw [e]
      show Known _ (upd (S g n).C (g n).who (c2 (S g n) (g n)) p) _
      by_cases c : p = (g n).who
      · rw [show upd (S g n).C (g n).who (c2 (S g n) (g n)) p = c2 (S g n) (g n) from if_pos c]
        refine K2.congr fun i hi vi => ⟨fun h => ⟨n, by omega, hv, c.symm, h⟩, ?_⟩
        rintro ⟨k, h1, h2, h3, h4⟩
        rcases Nat.lt_or_ge k n with q | q
        · exact Or.inr (hb_last.2 ⟨k, ⟨q, h2, hv, Or.inl (h3.trans c)⟩, h4⟩)
        · obtain rfl : k = n := by omega
          exact h4
      · rw [show upd (S g n).C (g n).who (c2 (S g n) (g n)) p = (S g n).C p from if_neg c]
        refine (I.C p).next (fun i hi vi => ⟨?_, ?_⟩) ?_
        · rintro ⟨k, h1, h2⟩; exact ⟨k, by omega, h2⟩
        · rintro ⟨k, h1, h2, h3, h4⟩
          rcases Nat.lt_or_ge k n with q | q
          · exact ⟨k, q, h2, h3, h4⟩
          · obtain rfl : k = n := by omega
            exact absurd h3.symm c
        · rintro ⟨k, h1, h2, h3, h4 | h4⟩
          · subst h4; exact c h3.symm
          · have := hb_lt h4; omega
    · rw [e]
      show upd (S g n).C (g n).who (c2 (S g n) (g n)) p p = _
      by_cases c : p = (g n).who
      · rw [show upd (S g n).C (g n).who (c2 (S g n) (g n)) p = c2 (S g n) (g n) from if_pos c, c, c2_me I hv]; rfl
      · rw [show upd (S g n).C (g n).who (c2 (S g n) (g n)) p = (S g n).C p from if_neg c, I.me]
        exact (if_neg (fun q => c q.2.symm)).symm
    · rw [e]
      show Known _ ((if stores (g n) then upd (S g n).W (g n).at_ (c2 (S g n) (g n)) else (S g n).W) a) _
      by_cases c : stores (g n) ∧ a = (g n).at_
      · rw [if_pos c.1, show upd (S g n).W (g n).at_ (c2 (S g n) (g n)) a = c2 (S g n) (g n) from if_pos c.2]
        refine K2.congr fun i hi vi => ⟨fun h => ⟨n, by omega, c.1, c.2.symm, fun m a b => by omega, h⟩, ?_⟩
        rintro ⟨k, h1, h2, h3, h4, h5⟩
        rcases Nat.lt_or_ge k n with q | q
        · exact absurd ⟨c.1, c.2.symm⟩ (h4 n q (by omega))
        · obtain rfl : k = n := by omega
          exact h5
      · have : (if stores (g n) then upd (S g n).W (g n).at_ (c2 (S g n) (g n)) else (S g n).W) a = (S g n).W a := by
          by_cases d : stores (g n)
          · rw [if_pos d]; exact if_neg (fun q => c ⟨d, q⟩)
          · rw [if_neg d]
        rw [this]
        refine (I.W a).next (fun i hi vi => ⟨?_, ?_⟩) ?_
        · rintro ⟨k, h1, h2, h3, h4, h5⟩
          refine ⟨k, by omega, h2, h3, fun m x y => ?_, h5⟩
          rcases Nat.lt_or_ge m n with q | q
          · exact h4 m x q
          · obtain rfl : m = n := by omega
            exact fun z => c ⟨z.1, z.2.symm⟩
        · rintro ⟨k, h1, h2, h3, h4, h5⟩
          rcases Nat.lt_or_ge k n with q | q
          · exact ⟨k, q, h2, h3, fun m x y => h4 m x (by omega), h5⟩
          · obtain rfl : k = n := by omega
            exact absurd ⟨h2, h3.symm⟩ c
        · rintro ⟨k, h1, h2, h3, h4, h5 | h5⟩
          · subst h5; exact c ⟨h2, h3.symm⟩
          · have := hb_lt h5; omega
    · rw [e]
      show Known _ ((if frees (g n) then upd (S g n).L (g n).at_ (joinT (c2 (S g n) (g n)) ((S g n).L (g n).at_)) else (S g n).L) a) _
      by_cases c : frees (g n) ∧ a = (g n).at_
      · rw [if_pos c.1, show upd (S g n).L (g n).at_ (joinT (c2 (S g n) (g n)) ((S g n).L (g n).at_)) a = joinT (c2 (S g n) (g n)) ((S g n).L (g n).at_) from if_pos c.2, ← c.2]
        have KLn : Known (g := g) (n + 1) ((S g n).L a) (KL g n a) := (I.L a).next (fun i hi vi => Iff.rfl) (by
          rintro ⟨k, h1, h2, h3, h4 | h4⟩
          · omega
          · have := hb_lt h4; omega)
        refine (K2.join KLn).congr fun i hi vi => ⟨?_, ?_⟩
        · rintro (h | ⟨k, h1, h2, h3, h4⟩)
          · exact ⟨n, by omega, c.1, c.2.symm, h⟩
          · exact ⟨k, by omega, h2, h3, h4⟩
        · rintro ⟨k, h1, h2, h3, h4⟩
          rcases Nat.lt_or_ge k n with q | q
          · exact Or.inr ⟨k, q, h2, h3, h4⟩
          · obtain rfl : k = n := by omega
            exact Or.inl h4
      · have : (if frees (g n) then upd (S g n).L (g n).at_ (joinT (c2 (S g n) (g n)) ((S g n).L (g n).at_)) else (S g n).L) a = (S g n).L a := by
          by_cases d : frees (g n)
          · rw [if_pos d]; exact if_neg (fun q => c ⟨d, q⟩)
          · rw [if_neg d]
        rw [this]
        refine (I.L a).next (fun i hi vi => ⟨?_, ?_⟩) ?_
        · rintro ⟨k, h1, h2⟩; exact ⟨k, by omega, h2⟩
        · rintro ⟨k, h1, h2, h3, h4⟩
          rcases Nat.lt_or_ge k n with q | q
          · exact ⟨k, q, h2, h3, h4⟩
          · obtain rfl : k = n := by omega
            exact absurd ⟨h2, h3.symm⟩ c
        · rintro ⟨k, h1, h2, h3, h4 | h4⟩
          · subst h4; exact c ⟨h2, h3.symm⟩
          · have := hb_lt h4; omega
  · have e : S g (n + 1) = S g n := if_neg hv
    refine ⟨fun p => ?_, fun p => ?_, fun a => ?_, fun a => ?_⟩ <;> rw [e]
    · refine (I.C p).next (fun i hi vi => ⟨?_, ?_⟩) ?_
      · rintro ⟨k, h1, h2⟩; exact ⟨k, by omega, h2⟩
      · rintro ⟨k, h1, h2, h3, h4⟩
        rcases Nat.lt_or_ge k n with q | q
        · exact ⟨k, q, h2, h3, h4⟩
        · obtain rfl : k = n := by omega
          exact absurd h2 hv
      · rintro ⟨k, h1, h2, h3, h4 | h4⟩
        · subst h4; exact hv h2
        · have := hb_lt h4; omega
    · rw [I.me]; exact (if_neg (fun q => hv q.1)).symm
    · refine (I.W a).next (fun i hi vi => ⟨?_, ?_⟩) ?_
      · rintro ⟨k, h1, h2, h3, h4, h5⟩
        refine ⟨k, by omega, h2, h3, fun m x y => ?_, h5⟩
        rcases Nat.lt_or_ge m n with q | q
        · exact h4 m x q
        · obtain rfl : m = n := by omega
          exact fun z => hv (stores_valid z.1)
      · rintro ⟨k, h1, h2, h3, h4, h5⟩
        rcases Nat.lt_or_ge k n with q | q
        · exact ⟨k, q, h2, h3, fun m x y => h4 m x (by omega), h5⟩
        · obtain rfl : k = n := by omega
          exact absurd (stores_valid h2) hv
      · rintro ⟨k, h1, h2, h3, h4, h5 | h5⟩
        · subst h5; exact hv (stores_valid h2)
        · have := hb_lt h5; omega
    · refine (I.L a).next (fun i hi vi => ⟨?_, ?_⟩) ?_
      · rintro ⟨k, h1, h2⟩; exact ⟨k, by omega, h2⟩
      · rintro ⟨k, h1, h2, h3, h4⟩
        rcases Nat.lt_or_ge k n with q | q
        · exact ⟨k, q, h2, h3, h4⟩
        · obtain rfl : k = n := by omega
          exact absurd (frees_valid h2) hv
      · rintro ⟨k, h1, h2, h3, h4 | h4⟩
        · subst h4; exact hv (frees_valid h2)
        · have := hb_lt h4; omega
theorem inv : ∀ n, Inv g n
  | 0 => inv_zero
  | n + 1 => inv_next (inv n)
variable (g) in
def bef (i j : Nat) : Bool := decide ((seenAt g i).1 > 0) && decide ((seenAt g j).2 (g i).who ≥ (seenAt g i).1)
theorem bef_iff {i j : Nat} (h : i < j) : bef g i j = true ↔ hb g i j := by
  unfold bef
  rw [Bool.and_eq_true, decide_eq_true_iff, decide_eq_true_iff]
  by_cases vi : valid (g i)
  · have e1 : (seenAt g i).1 = own g i := by unfold seenAt outS; rw [if_pos vi]; exact c2_me (inv i) vi
    have p1 : 0 < own g i := by
      have := cnt_nonneg (g := g) i (g i).who
      have := cnt_self vi
      unfold own; omega
    rw [e1]
    by_cases vj : valid (g j)
    · have e2 : (seenAt g j).2 = c2 (S g j) (g j) := by unfold seenAt outS; rw [if_pos vj]
      rw [e2]
      have := (known_c2 (inv j) vj).iff i (by omega) vi
      constructor
      · rintro ⟨_, b⟩
        exact (this.1 b).resolve_left (by omega)
      · intro b
        exact ⟨p1, this.2 (Or.inr b)⟩
    · have e2 : (seenAt g j).2 = zeroT := by unfold seenAt outS; rw [if_neg vj]
      rw [e2]
      constructor
      · rintro ⟨a, b⟩; have b : own g i ≤ 0 := b; omega
      · intro b; exact absurd (hb_right b) vj
  · have e1 : (seenAt g i).1 = 0 := by unfold seenAt outS; rw [if_neg vi]
    rw [e1]
    constructor
    · rintro ⟨a, b⟩; omega
    · intro b; exact absurd (hb_left b) vi
theorem cnt_le (n : Nat) (p : Int) : cnt g n p ≤ n := by
  induction n with
  | zero => exact Int.le_refl _
  | succ n ih => have := (cnt_step (g := g) n p).2; omega
theorem clocks_in (n : Nat) (p q : Int) : 0 ≤ (S g n).C p q ∧ (S g n).C p q ≤ n ∧ 0 ≤ (S g n).W p q ∧ (S g n).W p q ≤ n ∧ 0 ≤ (S g n).L p q ∧ (S g n).L p q ≤ n := by
  have I := inv (g := g) n
  have := cnt_le (g := g) n q
  exact ⟨(I.C p).lo q, Int.le_trans ((I.C p).hi q) this, (I.W p).lo q, Int.le_trans ((I.W p).hi q) this, (I.L p).lo q, Int.le_trans ((I.L p).hi q) this⟩
end
end Go.Proofs.Ytlcnckbmolefpaa.CK
end
section
namespace Go.Proofs.Ytlcnckbmolefpaa.CK
open Go Go.RowKit Go.Maps Go.ChangeMaps Go.MapKept Go.WideShapes
open Go.WideElems (Fit rd rg pl rd_val elemAt rd_key)
set_option linter.unusedVariables false
set_option linter.unusedSimpArgs false
variable {P : Program} {k : TypeId}
theorem keyI_ne {x y : Int} (h : x ≠ y) : (Lit.int .i64 x) ≠ Lit.int .i64 y := fun e => h (by injection e)
theorem pigeon : ∀ (l : List (Lit × DataW Unit)) (K : List Int), l.Pairwise (fun p q => p.1 ≠ q.1) → (∀ p ∈ l, ∃ x, x ∈ K ∧ p.1 = .int .i64 x) → l.length ≤ K.length
  | [], K, _, _ => Nat.zero_le _
  | p :: l, K, hd, hk => by
    obtain ⟨x, hx, hp⟩ := hk p List.mem_cons_self
    have h2 := List.pairwise_cons.1 hd
    have := pigeon l (K.erase x) h2.2 (fun q hq => by
      obtain ⟨y, hy, hqy⟩ := hk q (List.mem_cons_of_mem _ hq)
      have : y ≠ x := fun e => h2.1 q hq (by rw [hp, hqy, e])
      exact ⟨y, (List.mem_erase_of_ne this).2 hy, hqy⟩)
    rw [List.length_erase_of_mem hx] at this
    have : 0 < K.length := List.length_pos_of_mem hx
    simp only [List.length_cons]; omega
theorem own_int_keys (hk : P.underlying k = some (.int .i64)) {R : Value → Option (DataW Unit × List MemPlace)} {w : World} {b n : Nat} {D : DataW Unit} (h : w.ownsMap P k R b n D) :
    ∃ l, D = .map l ∧ l.Pairwise (fun p q => p.1 ≠ q.1) ∧ ∀ p ∈ l, ∃ x, p.1 = .int .i64 x := by
  obtain ⟨es, clock, _, F, _, rfl⟩ := h
  refine ⟨_, rfl, ((sorted_perm _).pairwise_iff (fun {_ _} hne => Ne.symm hne)).2 (Maps.fit_apart (int_keyed hk) F), fun p hp => ?_⟩
  obtain ⟨x, hx, rfl⟩ := List.mem_map.1 (mem_sorted.1 hp)
  obtain ⟨y, hy⟩ := F.reads x hx
  obtain ⟨z, _, hz, _⟩ := Maps.keyOf_int_inv hk (rd_key hy)
  exact ⟨z, by rw [Go.WideElems.rg_of hy]; exact hz⟩
theorem own_tight {R : Value → Option (DataW Unit × List MemPlace)} {w : World} {b n : Nat} {D : DataW Unit} (h : w.ownsMap P k R b n D) : w.ownsMap P k R b (Maps.size D) D := by
  obtain ⟨es, clock, hb, F, _, rfl⟩ := h
  exact ⟨es, clock, hb, F, by simp [Maps.size, length_sorted], rfl⟩
theorem own_few (hk : P.underlying k = some (.int .i64)) {R : Value → Option (DataW Unit × List MemPlace)} {w : World} {b n : Nat} {D : DataW Unit} {K : List Int} (h : w.ownsMap P k R b n D) (hK : ∀ x, Maps.has D (.int .i64 x) = true → x ∈ K) : w.ownsMap P k R b K.length D := by
  obtain ⟨l, rfl, h1, h2⟩ := own_int_keys hk h
  refine (own_tight h).mono ?_
  refine pigeon l K h1 (fun p hp => ?_)
  obtain ⟨x, hx⟩ := h2 p hp
  refine ⟨x, hK x ?_, hx⟩
  exact List.any_eq_true.2 ⟨p, hp, by rw [hx]; exact WideAt.sameKey_self trivial⟩
variable (P k) in
def TD (w : World) (b : Nat) (K : List Int) (t : T) (D : DataW Unit) : Prop := w.ownsMap P k (plainElem P k) b K.length D ∧ (∀ x : Int, D.atKey (.int .i64 x) (.lit (.int .i64 0)) = .lit (.int .i64 (t x))) ∧ ∀ x, Maps.has D (.int .i64 x) = true → x ∈ K
variable (P k) in
def TOwn (w : World) (b : Nat) (K : List Int) (t : T) : Prop := ∃ D, TD P k w b K t D
theorem TD.kept {w w' : World} {row : Option Nat} {b : Nat} {K : List Int} {t : T} {D : DataW Unit} (h : TD P k w b K t D) (hg : w.grownBy w' row) (hne : some b ≠ row) : TD P k w' b K t D := ⟨h.1.kept hg hne, h.2⟩
theorem TOwn.kept {w w' : World} {row : Option Nat} {b : Nat} {K : List Int} {t : T} (h : TOwn P k w b K t) (hg : w.grownBy w' row) (hne : some b ≠ row) : TOwn P k w' b K t := by
  obtain ⟨D, h⟩ := h; exact ⟨D, h.kept hg hne⟩
theorem TOwn.lt {w : World} {b : Nat} {K : List Int} {t : T} (h : TOwn P k w b K t) : b < w.heap.size := by obtain ⟨D, h⟩ := h; exact h.1.lt
theorem TD.more (hk : P.underlying k = some (.int .i64)) {w : World} {b : Nat} {K K' : List Int} {t : T} {D : DataW Unit} (h : TD P k w b K t D) (hK : ∀ x ∈ K, x ∈ K') : TD P k w b K' t D :=
  have h' : ∀ x, Maps.has D (.int .i64 x) = true → x ∈ K' := fun x hx => hK x (h.2.2 x hx)
  ⟨own_few hk h.1 h', h.2.1, h'⟩
theorem TOwn.more (hk : P.underlying k = some (.int .i64)) {w : World} {b : Nat} {K K' : List Int} {t : T} (h : TOwn P k w b K t) (hK : ∀ x ∈ K, x ∈ K') : TOwn P k w b K' t := by
  obtain ⟨D, h⟩ := h; exact ⟨D, h.more hk hK⟩
theorem TOwn.made (w : World) (K : List Int) : TOwn P k (w.alloc (.map #[] 0)) w.heap.size K zeroT :=
  ⟨.map [], (World.ownsMap_made w P k _).mono (Nat.zero_le _), fun x => rfl, fun x hx => by simp [Maps.has] at hx⟩
theorem TD.stored (hk : P.underlying k = some (.int .i64)) {w w' : World} {b n : Nat} {K : List Int} {t : T} {D : DataW Unit} (h : TD P k w b K t D) {x v : Int} (hx : x ∈ K) (h' : w'.ownsMap P k (plainElem P k) b n (D.put (.int .i64 x) (.lit (.int .i64 v)))) : TD P k w' b K (upd t x v) (D.put (.int .i64 x) (.lit (.int .i64 v))) := by
  have hm := h.1.isMap
  have hK : ∀ y, Maps.has (D.put (.int .i64 x) (.lit (.int .i64 v))) (.int .i64 y) = true → y ∈ K := fun y hy => by
    by_cases e : y = x
    · rw [e]; exact hx
    · rw [has_put_other (keyI_ne e)] at hy; exact h.2.2 y hy
  refine ⟨own_few hk h' hK, fun y => ?_, hK⟩
  by_cases e : y = x
  · subst e
    rw [atKey_put_same (k := .int .i64 y) hm trivial]
    show _ = DataW.lit (.int .i64 (if y = y then v else t y))
    rw [if_pos rfl]
  · rw [atKey_put_other (keyI_ne e), h.2.1]
    show _ = DataW.lit (.int .i64 (if y = x then v else t y))
    rw [if_neg e]
theorem wpList_lookup_T (w : World) {ops : Array Oper} {rest : List Oper} {o : Oper} {a : Act} {Q : Exit → Act → World → Prop}
    (hk : P.underlying k = some (.int .i64)) (hg : o.guard = none) (m x : Operand) (t : TypeId) (hop : o.op = Op.lookup t m x false) (ht : P.underlying t = some (.map k k)) (hz : (zeroValue k).run P w = .ok (.int .i64 0) w)
    (b : Nat) (K : List Int) (T0 : T) (hm : a.eval m = .map (some b)) (hown : TOwn P k w b K T0) (x0 : Int) (hx : a.eval x = .int .i64 x0) (hw : (Lit.int .i64 x0).wf = true)
    (hK : (Lit.int .i64 (T0 x0)).wf = true → wpList P ops Q rest (a.put o.dst (.int .i64 (T0 x0))) w) : wpList P ops Q (o :: rest) a w := by
  obtain ⟨D, h, hr, _⟩ := hown
  refine wpList_lookup_own_int w hg m x t hop k k .i64 (int_keyed hk) ht hk hz b K.length D hm h (.int .i64 x0) (.int .i64 x0) hx (keyOf_int_mk hk hw) (fun c hc hwc => ?_)
  rw [hr x0] at hc
  injection hc with hc
  injection hc with _ hc
  subst hc
  exact hK hwc
def encR : Option Nat → DataW Unit
  | none => .lit (.int .i64 (-1))
  | some b => .lit (.int .i64 b)
theorem encR_inj {a b : Option Nat} (h : encR a = encR b) : a = b := by
  cases a <;> cases b <;> simp [encR] at h ⊢ <;> omega
def refElem : Value → Option (DataW Unit × List MemPlace)
  | .map r => some (encR r, [])
  | _ => none
theorem refElem_inv {v : Value} {z : DataW Unit × List MemPlace} (h : refElem v = some z) : ∃ r, v = .map r ∧ z = (encR r, []) := by
  cases v <;> simp [refElem] at h
  exact ⟨_, rfl, h.symm⟩
variable (P k) in
def OMap (w : World) (b n : Nat) (f : Int → Option Nat) : Prop := ∃ D, w.ownsMap P k refElem b n D ∧ ∀ x : Int, D.atKey (.int .i64 x) (encR none) = encR (f x)
theorem OMap.kept {w w' : World} {row : Option Nat} {b n : Nat} {f : Int → Option Nat} (h : OMap P k w b n f) (hg : w.grownBy w' row) (hne : some b ≠ row) : OMap P k w' b n f := by
  obtain ⟨D, h, hr⟩ := h; exact ⟨D, h.kept hg hne, hr⟩
theorem OMap.lt {w : World} {b n : Nat} {f : Int → Option Nat} (h : OMap P k w b n f) : b < w.heap.size := by obtain ⟨D, h, _⟩ := h; exact h.lt
theorem OMap.mono {w : World} {b n n' : Nat} {f : Int → Option Nat} (h : OMap P k w b n f) (hn : n ≤ n') : OMap P k w b n' f := by obtain ⟨D, h, hr⟩ := h; exact ⟨D, h.mono hn, hr⟩
theorem OMap.made (w : World) : OMap P k (w.alloc (.map #[] 0)) w.heap.size 0 (fun _ => none) := ⟨.map [], World.ownsMap_made w P k _, fun x => rfl⟩
theorem wpList_lookup_R (w : World) {ops : Array Oper} {rest : List Oper} {o : Oper} {a : Act} {Q : Exit → Act → World → Prop}
    (hk : P.underlying k = some (.int .i64)) (hg : o.guard = none) (m x : Operand) (t e : TypeId) (hop : o.op = Op.lookup t m x false) (ht : P.underlying t = some (.map k e)) (hz : (zeroValue e).run P w = .ok (.map none) w)
    (b n : Nat) (f : Int → Option Nat) (hm : a.eval m = .map (some b)) (hown : OMap P k w b n f) (x0 : Int) (hx : a.eval x = .int .i64 x0) (hw : (Lit.int .i64 x0).wf = true)
    (hK : wpList P ops Q rest (a.put o.dst (.map (f x0))) w) : wpList P ops Q (o :: rest) a w := by
  obtain ⟨D, h, hr⟩ := hown
  refine wpList_plain hg fun K' hK' => ?_
  obtain ⟨v, ps, hrun, hv⟩ := h.lookup (int_keyed hk) ht hz (zd := encR none) (zp := []) rfl (keyOf_int_mk hk hw)
  rw [hr x0] at hv
  obtain ⟨r, rfl, e⟩ := refElem_inv hv
  have er : r = f x0 := encR_inj (congrArg Prod.fst e).symm
  subst er
  unfold Oper.wp
  simp [execOp, hop, hm, hx, hrun, Result.andThen]
  exact hK' _ _ hK
theorem wpList_update_R (w : World) {ops : Array Oper} {rest : List Oper} {o : Oper} {a : Act} {Q : Exit → Act → World → Prop}
    (hk : P.underlying k = some (.int .i64)) (hg : o.guard = none) (m x v : Operand) (t e : TypeId) (hop : o.op = Op.mapUpdate t m x v) (ht : P.underlying t = some (.map k e))
    (b n : Nat) (f : Int → Option Nat) (hm : a.eval m = .map (some b)) (hown : OMap P k w b n f) (hn : n < maxLen) (x0 : Int) (hx : a.eval x = .int .i64 x0) (hw : (Lit.int .i64 x0).wf = true) (r : Option Nat) (hv : a.eval v = .map r)
    (hK : ∀ w', OMap P k w' b (n + 1) (upd f x0 r) → w.grownBy w' (some b) → wpList P ops Q rest (a.put o.dst undef) w') : wpList P ops Q (o :: rest) a w := by
  obtain ⟨D, h, hr⟩ := hown
  refine wpList_mapUpdate_own w hg m x v t hop k e (int_keyed hk) ht refElem b n D hm h hn (.int .i64 x0) (.map r) (.int .i64 x0) hx hv (keyOf_int_mk hk hw) (encR r) [] rfl (fun w' h' hg' => hK w' ⟨_, h', fun y => ?_⟩ hg')
  by_cases e : y = x0
  · subst e
    rw [atKey_put_same (k := .int .i64 y) h.isMap trivial]
    show _ = encR (if y = y then r else f y)
    rw [if_pos rfl]
  · rw [atKey_put_other (keyI_ne e), hr]
    show _ = encR (if y = x0 then r else f y)
    rw [if_neg e]
theorem wpList_update_T (w : World) {ops : Array Oper} {rest : List Oper} {o : Oper} {a : Act} {Q : Exit → Act → World → Prop}
    (hk : P.underlying k = some (.int .i64)) (hg : o.guard = none) (m x v : Operand) (t : TypeId) (hop : o.op = Op.mapUpdate t m x v) (ht : P.underlying t = some (.map k k))
    (b : Nat) (K : List Int) (T0 : T) (hm : a.eval m = .map (some b)) (hown : TOwn P k w b K T0) (hn : K.length < maxLen) (x0 : Int) (hx : a.eval x = .int .i64 x0) (hw : (Lit.int .i64 x0).wf = true) (hx0 : x0 ∈ K) (y : Int) (hv : a.eval v = .int .i64 y) (hwy : (Lit.int .i64 y).wf = true)
    (hK : ∀ w', TOwn P k w' b K (upd T0 x0 y) → w.grownBy w' (some b) → wpList P ops Q rest (a.put o.dst undef) w') : wpList P ops Q (o :: rest) a w := by
  obtain ⟨D, h⟩ := hown
  exact wpList_mapUpdate_own w hg m x v t hop k k (int_keyed hk) ht (plainElem P k) b K.length D hm h.1 hn (.int .i64 x0) (.int .i64 y) (.int .i64 x0) hx hv (keyOf_int_mk hk hw) (.lit (.int .i64 y)) [] (plainElem_int hk hwy) (fun w' h' hg' => hK w' ⟨_, h.stored hk hx0 h'⟩ hg')
end Go.Proofs.Ytlcnckbmolefpaa.CK
end
section
namespace Go.Proofs.Ytlcnckbmolefpaa.P
open Go.RowKit Go.Maps Go.Proofs.Ytlcnckbmolefpaa.CK Go.Proofs.YtlcnckbmolefpaaW.PrintWords Go.Proofs.YtlcnckbmolefpaaW.PrintLast Go.Proofs.YtlcnckbmolefpaaW.PrintMore
attribute [local go_sem] max2_int min2_int max_two min_two
set_option linter.unusedVariables false
set_option linter.unusedSimpArgs false
theorem law3c : Keyed Try.prog 3 := int_keyed Try.underlying3
def cloneT_ren : Go.Shelf.Ren := ⟨fun | 5 => 107 | 7 => 119 | n => n, fun | 23 => 169 | 25 => 3 | n => n, fun n => n⟩
theorem cloneT : Go.Proofs.SlLaysW.n5 Try.prog cloneT_ren := { mixed := rfl, f5 := ⟨Try.f107.name, by decide, Try.func107⟩, f7 := Try.func119, t4 := Try.underlying4, a4 := Try.isAgg4, z4 := Try.sizeOf4, v4 := Try.zeroValue4, t20 := Try.underlying20, a20 := Try.isAgg20, z20 := Try.sizeOf20, v20 := Try.zeroValue20, t23 := Try.underlying169, a23 := Try.isAgg169, z23 := Try.sizeOf169, v23 := Try.zeroValue169 }
theorem clone_T (b : Nat) (K : List Int) (t : T) (w : World) (h : TOwn Try.prog 3 w b K t) : Calls Try.prog 107 #[.map (some b)] w fun e w' => e = .returned (.map (some w.heap.size)) ∧ TOwn Try.prog 3 w' w.heap.size K t ∧ Below w.heap.size w w' ∧ w'.heap.size = w.heap.size + 1 := by
  obtain ⟨D, h, hr⟩ := h
  obtain ⟨es, clock, hb, F, hs, hD⟩ := h
  refine (AnyW.maps_Clone cloneT b es clock w hb).mono fun e w' ⟨he, hw⟩ => ?_
  subst hw
  have hB : Below w.heap.size w (w.alloc (.map es clock)) := (Below.refl _ w).alloc (Nat.le_refl _) _
  exact ⟨he, ⟨D, ⟨es, clock, (MapKept.heap_alloc w _).1, F, hs, hD⟩, hr⟩, hB, by simp⟩
def joinP (t u : T) (left : Lit → Bool) : T := fun x => if left (.int .i64 x) then t x else max (t x) (u x)
theorem joinP_start {D : DataW Unit} {t u : T} (t0 : ∀ x, 0 ≤ t x) (hD : ∀ x : Int, D.atKey (.int .i64 x) (.lit (.int .i64 0)) = .lit (.int .i64 (u x))) : joinP t u (Maps.has D) = t := by
  funext x
  unfold joinP
  cases h : Maps.has D (.int .i64 x)
  · have := hD x
    rw [atKey_of_not_has h] at this
    injection this with this
    injection this with _ this
    have := t0 x
    rw [if_neg (by simp)]
    omega
  · rw [if_pos rfl]
theorem joinP_end {t u : T} {left : Lit → Bool} (h : ∀ l, left l = false) : joinP t u left = joinT t u := by
  funext x
  unfold joinP joinT
  rw [h, if_neg (by simp)]
theorem joinP_next {t u : T} {left : Lit → Bool} {x c : Int} (hl : left (.int .i64 x) = true) (hc : u x = c) : upd (joinP t u left) x (max (joinP t u left x) c) = joinP t u (fun z => left z && !z.sameKey (.int .i64 x)) := by
  funext y
  unfold upd
  by_cases e : y = x
  · subst e
    rw [if_pos rfl]
    have e1 := WideAt.sameKey_self (a := .int .i64 y) trivial
    have e2 : (left (.int .i64 y) && !(Lit.int .i64 y).sameKey (.int .i64 y)) = false := by rw [e1]; simp
    show max (if left (.int .i64 y) = true then t y else max (t y) (u y)) c = if (left (.int .i64 y) && !(Lit.int .i64 y).sameKey (.int .i64 y)) = true then t y else max (t y) (u y)
    simp only [hl, e1, hc, Bool.not_true, Bool.and_false, if_true, Bool.false_eq_true, if_false]
  · rw [if_neg e]
    have e1 := sameKey_ne (keyI_ne e)
    have e2 : (left (.int .i64 y) && !(Lit.int .i64 y).sameKey (.int .i64 x)) = left (.int .i64 y) := by rw [e1]; simp
    show (if left (.int .i64 y) = true then t y else max (t y) (u y)) = if (left (.int .i64 y) && !(Lit.int .i64 y).sameKey (.int .i64 x)) = true then t y else max (t y) (u y)
    simp only [e2]
theorem wf_max {a b : Int} (ha : (Lit.int .i64 a).wf = true) (hb : (Lit.int .i64 b).wf = true) : (Lit.int .i64 (max a b)).wf = true := by
  rcases Int.le_total a b with h | h
  · rw [Int.max_eq_right h]; exact hb
  · rw [Int.max_eq_left h]; exact ha
set_option maxHeartbeats 1000000 in
set_option maxRecDepth 100000 in
theorem join_T (bt bu : Nat) (K : List Int) (t u : T) (w : World) (ht : TOwn Try.prog 3 w bt K t) (hu : TOwn Try.prog 3 w bu K u) (hne : bt ≠ bu) (hK : K.length ≤ 1000000) (t0 : ∀ x, 0 ≤ t x) :
    Calls Try.prog 106 #[.map (some bt), .map (some bu)] w fun e w' => e = .returned (.tuple #[]) ∧ TOwn Try.prog 3 w' bt K (joinT t u) ∧ w.grownBy w' (some bt) := by
  have hlt := hu.lt
  have htl := ht.lt
  obtain ⟨D, hu, hD⟩ := hu
  have HT := Aside0.mk ht
  have HU := Aside0.mk hu
  have HD := Aside0.mk hD
  have HE := Aside0.mk (joinP_start t0 hD.1)
  clear ht hu hD
  go_enter Try.func106, Try.ntmps106
  go_wp2_with (first | (at_range; refine wpList_range_own _ rfl _ 169 rfl 3 3 law3c Try.underlying169 (plainElem Try.prog 3) bu K.length D rfl HU.out ?_; intro w3 hrg3 hg3 hs3))
  go_frame
  go_loopw [4] (fun _ wr => Aside0 (∃ (left : Lit → Bool) (cnt : Nat), wr.ranges Try.prog 3 (plainElem Try.prog 3) bu w.heap.size K.length D left cnt ∧ w.grownBy wr (some bt) ∧ TOwn Try.prog 3 wr bt K (joinP t u left))) (fun _ wr => wr.rangeLeft bu w.heap.size)
  case atStart => exact ⟨_, _, hrg3, hg3.but _, HE.out.symm ▸ HT.out.kept hg3 (by simp)⟩
  case round =>
    clear hrg3 hg3 hs3
    obtain ⟨left, cnt, hrg, hgr, hto⟩ := hrel.out
    clear hrel
    have HQ := Aside0.mk hrg
    have HG := Aside0.mk hgr
    have HO := Aside0.mk hto
    clear hrg hgr hto
    go_wp2_with (first | (at_next; refine wpList_next_ranges_ii _ rfl _ rfl 3 3 .i64 .i64 law3c Try.underlying3 Try.underlying3 bu w.heap.size K.length D left cnt rfl HQ.out ?_ ?_))
    · intro _ hl0
      have HF := Aside0.mk (joinP_end (t := t) (u := u) hl0)
      clear hl0
      go_wp2
      ((try simp only [Exit.inBlock, Exit.then]); first | refine bodyPost_ret (results_none rfl _ _ _) rfl ?_ | refine bodyPost_end (results_none rfl _ _ _) rfl ?_)
      exact ⟨rfl, HF.out ▸ HO.out, HG.out⟩
    · intro x c w1 cnt1 hwx hwc hlx hat hrg1 hlt1 hg1 hs1 hen
      have HX := Aside0.mk (HD.out.2 x (has_true_of_atKey hat))
      have hc : u x = c := by
        have := HD.out.1 x
        rw [hat] at this
        injection this with this
        injection this with _ this
        exact this.symm
      have HN := Aside0.mk (joinP_next (t := t) hlx hc)
      have HR1 := Aside0.mk hrg1
      have HL1 := Aside0.mk hlt1
      have HT1 := Aside0.mk (HO.out.kept hg1 (by simp; omega))
      have HG1 := Aside0.mk (HG.out.andThen hg1 (by intro j hj; left; injection hj with hj; omega))
      clear hat hlx hrg1 hlt1 hg1 hs1 hc
      go_wp2_with (first | (at_lookup; refine wpList_lookup_T _ Try.underlying3 rfl _ _ 169 rfl Try.underlying169 (Try.zeroValue3 _) bt K _ rfl HT1.out x rfl hwx ?_; intro hwt) | (at_mapUpdate; refine wpList_update_T _ Try.underlying3 rfl _ _ _ 169 rfl Try.underlying169 bt K _ rfl HT1.out (by unfold maxLen; omega) x rfl hwx HX.out (max (joinP t u left x) c) ?_ ?_ ?_; rotate_left 2; intro w2 ht2 hg2; rotate_left 1))
      all_goals first
        | omega
        | exact wf_max hwt hwc
        | (have hr2 := HR1.out.kept hg2 (by simp; omega) (by simp; omega)
           exact ⟨⟨_, ⟨cnt1, hr2⟩, HG1.out.trans hg2, HN.out ▸ ht2⟩, by rw [hr2.left_eq, HQ.out.left_eq]; exact HL1.out⟩)
def kSeen : Kd (Int × Option Nat) := Kd.pair (Kd.int .i64) (Kd.scalar Value.map (fun _ => rfl))
def RefIs (τ : Nat → Option T) : Option Nat → T → Prop
  | none, t => t = zeroT
  | some b, t => τ b = some t
def updN (τ : Nat → Option T) (b : Nat) (t : T) : Nat → Option T := fun x => if x = b then some t else τ x
theorem RefIs.other {τ : Nat → Option T} {r : Option Nat} {t t' : T} {b : Nat} (h : RefIs τ r t) (hne : r ≠ some b) : RefIs (updN τ b t') r t := by
  cases r with
  | none => exact h
  | some c => show (if c = b then some t' else τ c) = some t; rw [if_neg (fun e => hne (by rw [e]))]; exact h
theorem RefIs.self (τ : Nat → Option T) (b : Nat) (t : T) : RefIs (updN τ b t) (some b) t := if_pos rfl
structure WR (w0 w : World) (B bc bw bl n : Nat) (K : List Int) (eo : Option (Nat × S128)) (s : St) (fC fW fL : Int → Option Nat) (τ : Nat → Option T) (vo : Value) (rs : List (Int × Option Nat)) (os : List (Int × T)) : Prop where
  oc : OMap Try.prog 3 w bc n fC
  ow : OMap Try.prog 3 w bw n fW
  ol : OMap Try.prog 3 w bl n fL
  ne : bc ≠ bw ∧ bc ≠ bl ∧ bw ≠ bl
  ge : B ≤ bc ∧ B ≤ bw ∧ B ≤ bl
  maps : ∀ b t, τ b = some t → TOwn Try.prog 3 w b K t ∧ B ≤ b ∧ b ≠ bc ∧ b ≠ bw ∧ b ≠ bl
  rC : ∀ x, RefIs τ (fC x) (s.C x)
  rW : ∀ x, RefIs τ (fW x) (s.W x)
  rL : ∀ x, RefIs τ (fL x) (s.L x)
  inj : ∀ x y b, fC x = some b → fC y = some b → x = y
  apart : ∀ x b, fC x = some b → (∀ y, fW y ≠ some b) ∧ (∀ y, fL y ≠ some b) ∧ ∀ r ∈ rs, r.2 ≠ some b
  out : Kd.R kSeen 171 w B (fun _ => True) vo rs
  outs : rs.length = os.length ∧ ∀ (j : Nat) (r : Int × Option Nat) (o : Int × T), rs[j]? = some r → os[j]? = some o → r.1 = o.1 ∧ RefIs τ r.2 o.2
  eb : ∀ be e, eo = some (be, e) → w.heap[be]? = some (.cells #[.int .i64 e.f0, .int .i64 e.f1, .int .i64 e.f2, .bool e.f3] 128 (0, 0))
  bel : Below B w0 w
  lo : B ≤ w.heap.size
section
variable {w0 w w' : World} {B bc bw bl n : Nat} {K : List Int} {eo : Option (Nat × S128)} {s : St} {fC fW fL : Int → Option Nat} {τ : Nat → Option T} {vo : Value} {rs : List (Int × Option Nat)} {os : List (Int × T)}
theorem omap_block {b : Nat} {f : Int → Option Nat} (h : OMap Try.prog 3 w b n f) : ∃ es clock, w.heap[b]? = some (.map es clock) := by
  obtain ⟨D, ⟨es, clock, hb, _⟩, _⟩ := h; exact ⟨es, clock, hb⟩
theorem town_block {b : Nat} {t : T} (h : TOwn Try.prog 3 w b K t) : ∃ es clock, w.heap[b]? = some (.map es clock) := by
  obtain ⟨D, ⟨⟨es, clock, hb, _⟩, _⟩⟩ := h; exact ⟨es, clock, hb⟩
theorem WR.ref_lt (h : WR w0 w B bc bw bl n K eo s fC fW fL τ vo rs os) {b : Nat} {t : T} (hb : τ b = some t) : b < w.heap.size := (h.maps b t hb).1.lt
theorem WR.refW_lt (h : WR w0 w B bc bw bl n K eo s fC fW fL τ vo rs os) {y : Int} {b : Nat} (hb : fW y = some b) : b < w.heap.size := by have := h.rW y; rw [hb] at this; exact h.ref_lt this
theorem WR.refL_lt (h : WR w0 w B bc bw bl n K eo s fC fW fL τ vo rs os) {y : Int} {b : Nat} (hb : fL y = some b) : b < w.heap.size := by have := h.rL y; rw [hb] at this; exact h.ref_lt this
theorem WR.refC_lt (h : WR w0 w B bc bw bl n K eo s fC fW fL τ vo rs os) {y : Int} {b : Nat} (hb : fC y = some b) : b < w.heap.size := by have := h.rC y; rw [hb] at this; exact h.ref_lt this
theorem WR.refO_lt (h : WR w0 w B bc bw bl n K eo s fC fW fL τ vo rs os) {r : Int × Option Nat} (hr : r ∈ rs) {b : Nat} (hb : r.2 = some b) : b < w.heap.size := by
  obtain ⟨j, hj, e⟩ := List.getElem_of_mem hr
  have hj' : j < os.length := by have := h.outs.1; omega
  have := (h.outs.2 j r os[j] (by rw [List.getElem?_eq_getElem hj, e]) (List.getElem?_eq_getElem hj')).2
  rw [hb] at this
  exact h.ref_lt this
theorem out_kept {vo : Value} (h : Kd.R kSeen 171 w B (fun _ => True) vo rs) {b : Nat} (hg : w.grownBy w' (some b)) (hb : ∀ c q f, w.heap[b]? ≠ some (.cells c q f)) : Kd.R kSeen 171 w' B (fun _ => True) vo rs := by
  refine Kd.R_mono (Kd.R_grown (Kd.R_bound h) hg (fun k hk e => ?_)) (fun _ _ => trivial)
  obtain ⟨_, _, _, q, _, cells, hc⟩ := hk
  injection e with e
  subst e
  exact hb _ _ _ hc
theorem eb_kept {be b : Nat} {o : Obj} (h : w.heap[be]? = some o) (hg : w.grownBy w' (some b)) (hne : be ≠ b) : w'.heap[be]? = some o := by
  have hlt : be < w.heap.size := (Array.getElem?_eq_some_iff.1 h).1
  exact (hg.block be hlt (by intro e; injection e with e; exact hne e)).trans h
theorem map_ne {b : Nat} {es : Array MapEntry} {clock : Nat} (h : w.heap[b]? = some (.map es clock)) : ∀ c q f, w.heap[b]? ≠ some (.cells c q f) := fun c q f e => by rw [h] at e; cases e
theorem new_ne {b : Nat} (h : w.heap.size ≤ b) : ∀ c q f, w.heap[b]? ≠ some (.cells c q f) := fun c q f e => by
  have := (Array.getElem?_eq_some_iff.1 e).1; omega
theorem WR.below (h : WR w0 w B bc bw bl n K eo s fC fW fL τ vo rs os) (hb : Below w.heap.size w w') : WR w0 w' B bc bw bl n K eo s fC fW fL τ vo rs os := by
  have g : w.grownBy w' none := grown_of_below hb none
  exact { h with oc := h.oc.kept g (by simp), ow := h.ow.kept g (by simp), ol := h.ol.kept g (by simp), maps := fun b t hbt => ⟨(h.maps b t hbt).1.kept g (by simp), (h.maps b t hbt).2⟩, out := Kd.R_below h.out hb, eb := fun be e he => blk_below (h.eb be e he) hb, bel := h.bel.trans (hb.mono h.lo), lo := Nat.le_trans h.lo hb.size }
theorem WR.more (h : WR w0 w B bc bw bl n K eo s fC fW fL τ vo rs os) {n' : Nat} (hn : n ≤ n') : WR w0 w B bc bw bl n' K eo s fC fW fL τ vo rs os := { h with oc := h.oc.mono hn, ow := h.ow.mono hn, ol := h.ol.mono hn }
theorem WR.drop (h : WR w0 w B bc bw bl n K eo s fC fW fL τ vo rs os) : WR w0 w B bc bw bl n K none s fC fW fL τ vo rs os := { h with eb := fun _ _ e => by cases e }
theorem WR.laid (h : WR w0 w B bc bw bl n K none s fC fW fL τ vo rs os) {be : Nat} {e : S128} (hb : w.heap[be]? = some (.cells #[.int .i64 e.f0, .int .i64 e.f1, .int .i64 e.f2, .bool e.f3] 128 (0, 0))) : WR w0 w B bc bw bl n K (some (be, e)) s fC fW fL τ vo rs os := { h with eb := fun be' e' he => by injection he with he; injection he with h1 h2; subst h1 h2; exact hb }
theorem WR.turn (h : WR w0 w B bc bw bl n K eo s fC fW fL τ vo rs os) {b : Nat} {t' : T} {C' : Int → T} (hg : w.grownBy w' (some b)) (hB : B ≤ b) (hc : ∀ c q f, w.heap[b]? ≠ some (.cells c q f)) (hne : b ≠ bc ∧ b ≠ bw ∧ b ≠ bl) (hb : TOwn Try.prog 3 w' b K t')
    (uW : ∀ y, fW y ≠ some b) (uL : ∀ y, fL y ≠ some b) (uO : ∀ r ∈ rs, r.2 ≠ some b) (hC : ∀ x, RefIs (updN τ b t') (fC x) (C' x)) : WR w0 w' B bc bw bl n K eo ⟨C', s.W, s.L⟩ fC fW fL (updN τ b t') vo rs os where
  oc := h.oc.kept hg (by intro e; injection e with e; exact hne.1 e.symm)
  ow := h.ow.kept hg (by intro e; injection e with e; exact hne.2.1 e.symm)
  ol := h.ol.kept hg (by intro e; injection e with e; exact hne.2.2 e.symm)
  ne := h.ne
  ge := h.ge
  maps := fun c t hct => by
    by_cases e : c = b
    · subst e
      have : t = t' := by have q : (if c = c then some t' else τ c) = some t := hct; rw [if_pos rfl] at q; injection q with q; exact q.symm
      subst this
      exact ⟨hb, hB, hne⟩
    · have q : (if c = b then some t' else τ c) = some t := hct
      rw [if_neg e] at q
      exact ⟨(h.maps c t q).1.kept hg (by intro k; injection k with k; exact e k), (h.maps c t q).2⟩
  rC := hC
  rW := fun x => (h.rW x).other (uW x)
  rL := fun x => (h.rL x).other (uL x)
  inj := h.inj
  apart := h.apart
  out := out_kept h.out hg hc
  outs := ⟨h.outs.1, fun j r o hr ho => ⟨(h.outs.2 j r o hr ho).1, (h.outs.2 j r o hr ho).2.other (uO r (List.mem_of_getElem? hr))⟩⟩
  eb := fun be e he => eb_kept (h.eb be e he) hg (fun q => by subst q; exact hc _ _ _ (h.eb be e he))
  bel := h.bel.grown hg h.lo (fun k hk => by injection hk with hk; omega)
  lo := Nat.le_trans h.lo hg.size
theorem WR.turnC (h : WR w0 w B bc bw bl n K eo s fC fW fL τ vo rs os) {b : Nat} {x0 : Int} {t' : T} (hx : fC x0 = some b) (hg : w.grownBy w' (some b)) (hb : TOwn Try.prog 3 w' b K t') : WR w0 w' B bc bw bl n K eo ⟨upd s.C x0 t', s.W, s.L⟩ fC fW fL (updN τ b t') vo rs os := by
  have hr := h.rC x0
  rw [hx] at hr
  obtain ⟨m1, m2, m3⟩ := h.maps b _ hr
  obtain ⟨es, clock, hm⟩ := town_block m1
  obtain ⟨a1, a2, a3⟩ := h.apart x0 b hx
  refine h.turn hg m2 (map_ne hm) m3 hb a1 a2 a3 (fun x => ?_)
  by_cases e : x = x0
  · subst e
    rw [hx, show upd s.C x t' x = t' from if_pos rfl]
    exact RefIs.self _ _ _
  · rw [show upd s.C x0 t' x = s.C x from if_neg e]
    exact (h.rC x).other (fun q => e (h.inj x x0 b q hx))
theorem WR.fresh (h : WR w0 w B bc bw bl n K eo s fC fW fL τ vo rs os) {t' : T} (hg : Below w.heap.size w w') (hb : TOwn Try.prog 3 w' w.heap.size K t') : WR w0 w' B bc bw bl n K eo s fC fW fL (updN τ w.heap.size t') vo rs os := by
  have q1 := h.oc.lt; have q2 := h.ow.lt; have q3 := h.ol.lt
  exact h.turn (C' := s.C) (grown_of_below hg _) h.lo (new_ne (Nat.le_refl _)) ⟨by omega, by omega, by omega⟩ hb (fun y e => by have := h.refW_lt e; omega) (fun y e => by have := h.refL_lt e; omega) (fun r hr e => by have := h.refO_lt hr e; omega) (fun x => (h.rC x).other (fun e => by have := h.refC_lt e; omega))
theorem WR.turnN (h : WR w0 w B bc bw bl n K eo s fC fW fL τ vo rs os) {b : Nat} {t t' : T} (ht : τ b = some t) (uC : ∀ y, fC y ≠ some b) (uW : ∀ y, fW y ≠ some b) (uL : ∀ y, fL y ≠ some b) (uO : ∀ r ∈ rs, r.2 ≠ some b) (hg : w.grownBy w' (some b)) (hb : TOwn Try.prog 3 w' b K t') : WR w0 w' B bc bw bl n K eo s fC fW fL (updN τ b t') vo rs os := by
  obtain ⟨m1, m2, m3⟩ := h.maps b _ ht
  obtain ⟨es, clock, hm⟩ := town_block m1
  exact h.turn (C' := s.C) hg m2 (map_ne hm) m3 hb uW uL uO (fun x => (h.rC x).other (uC x))
theorem put_kept (h : WR w0 w B bc bw bl n K eo s fC fW fL τ vo rs os) {b : Nat} (hg : w.grownBy w' (some b)) (hB : B ≤ b) (hc : ∀ c q f, w.heap[b]? ≠ some (.cells c q f)) (hne : b = bc ∨ b = bw ∨ b = bl) :
    (∀ c t, τ c = some t → TOwn Try.prog 3 w' c K t ∧ B ≤ c ∧ c ≠ bc ∧ c ≠ bw ∧ c ≠ bl) ∧ Kd.R kSeen 171 w' B (fun _ => True) vo rs ∧ (∀ be e, eo = some (be, e) → w'.heap[be]? = some (.cells #[.int .i64 e.f0, .int .i64 e.f1, .int .i64 e.f2, .bool e.f3] 128 (0, 0))) ∧ Below B w0 w' ∧ B ≤ w'.heap.size := by
  refine ⟨fun c t hct => ?_, out_kept h.out hg hc, fun be e he => eb_kept (h.eb be e he) hg (fun q => by subst q; exact hc _ _ _ (h.eb be e he)), h.bel.grown hg h.lo (fun k hk => by injection hk with hk; omega), Nat.le_trans h.lo hg.size⟩
  obtain ⟨m1, m2, m3, m4, m5⟩ := h.maps c t hct
  refine ⟨m1.kept hg (by intro k; injection k with k; rcases hne with q | q | q <;> omega), m2, m3, m4, m5⟩
theorem WR.putC (h : WR w0 w B bc bw bl n K eo s fC fW fL τ vo rs os) {b : Nat} {x0 : Int} {t : T} (hg : w.grownBy w' (some bc)) (ho : OMap Try.prog 3 w' bc (n + 1) (upd fC x0 (some b))) (ht : τ b = some t) (uC : ∀ y, fC y ≠ some b) (uW : ∀ y, fW y ≠ some b) (uL : ∀ y, fL y ≠ some b) (uO : ∀ r ∈ rs, r.2 ≠ some b) : WR w0 w' B bc bw bl (n + 1) K eo ⟨upd s.C x0 t, s.W, s.L⟩ (upd fC x0 (some b)) fW fL τ vo rs os := by
  obtain ⟨es, clock, hm⟩ := omap_block h.oc
  obtain ⟨k1, k2, k3, k4, k5⟩ := put_kept h hg h.ge.1 (map_ne hm) (Or.inl rfl)
  refine ⟨ho, (h.ow.kept hg (by intro e; injection e with e; exact h.ne.1 e.symm)).mono (Nat.le_succ _), (h.ol.kept hg (by intro e; injection e with e; exact h.ne.2.1 e.symm)).mono (Nat.le_succ _), h.ne, h.ge, k1, fun x => ?_, h.rW, h.rL, fun x y c hx hy => ?_, fun x c hx => ?_, k2, h.outs, k3, k4, k5⟩
  · show RefIs τ (if x = x0 then some b else fC x) (if x = x0 then t else s.C x)
    by_cases e : x = x0
    · rw [if_pos e, if_pos e]; exact ht
    · rw [if_neg e, if_neg e]; exact h.rC x
  · have hx : (if x = x0 then some b else fC x) = some c := hx
    have hy : (if y = x0 then some b else fC y) = some c := hy
    by_cases e : x = x0
    · rw [if_pos e] at hx
      by_cases e' : y = x0
      · rw [e, e']
      · rw [if_neg e'] at hy; exact absurd (hy.trans hx.symm) (uC y)
    · rw [if_neg e] at hx
      by_cases e' : y = x0
      · rw [if_pos e'] at hy; exact absurd (hx.trans hy.symm) (uC x)
      · rw [if_neg e'] at hy; exact h.inj x y c hx hy
  · have hx : (if x = x0 then some b else fC x) = some c := hx
    by_cases e : x = x0
    · rw [if_pos e] at hx; injection hx with hx; subst hx; exact ⟨uW, uL, uO⟩
    · rw [if_neg e] at hx; exact h.apart x c hx
theorem WR.putW (h : WR w0 w B bc bw bl n K eo s fC fW fL τ vo rs os) {b : Nat} {x0 : Int} {t : T} (hg : w.grownBy w' (some bw)) (ho : OMap Try.prog 3 w' bw (n + 1) (upd fW x0 (some b))) (ht : τ b = some t) (uC : ∀ y, fC y ≠ some b) : WR w0 w' B bc bw bl (n + 1) K eo ⟨s.C, upd s.W x0 t, s.L⟩ fC (upd fW x0 (some b)) fL τ vo rs os := by
  obtain ⟨es, clock, hm⟩ := omap_block h.ow
  obtain ⟨k1, k2, k3, k4, k5⟩ := put_kept h hg h.ge.2.1 (map_ne hm) (Or.inr (Or.inl rfl))
  refine ⟨(h.oc.kept hg (by intro e; injection e with e; exact h.ne.1 e)).mono (Nat.le_succ _), ho, (h.ol.kept hg (by intro e; injection e with e; exact h.ne.2.2 e.symm)).mono (Nat.le_succ _), h.ne, h.ge, k1, h.rC, fun x => ?_, h.rL, h.inj, fun x c hx => ⟨fun y hy => ?_, (h.apart x c hx).2⟩, k2, h.outs, k3, k4, k5⟩
  · show RefIs τ (if x = x0 then some b else fW x) (if x = x0 then t else s.W x)
    by_cases e : x = x0
    · rw [if_pos e, if_pos e]; exact ht
    · rw [if_neg e, if_neg e]; exact h.rW x
  · have hy : (if y = x0 then some b else fW y) = some c := hy
    by_cases e : y = x0
    · rw [if_pos e] at hy; exact uC x (hx.trans hy.symm)
    · rw [if_neg e] at hy; exact (h.apart x c hx).1 y hy
theorem WR.putL (h : WR w0 w B bc bw bl n K eo s fC fW fL τ vo rs os) {b : Nat} {x0 : Int} {t : T} (hg : w.grownBy w' (some bl)) (ho : OMap Try.prog 3 w' bl (n + 1) (upd fL x0 (some b))) (ht : τ b = some t) (uC : ∀ y, fC y ≠ some b) : WR w0 w' B bc bw bl (n + 1) K eo ⟨s.C, s.W, upd s.L x0 t⟩ fC fW (upd fL x0 (some b)) τ vo rs os := by
  obtain ⟨es, clock, hm⟩ := omap_block h.ol
  obtain ⟨k1, k2, k3, k4, k5⟩ := put_kept h hg h.ge.2.2 (map_ne hm) (Or.inr (Or.inr rfl))
  refine ⟨(h.oc.kept hg (by intro e; injection e with e; exact h.ne.2.1 e)).mono (Nat.le_succ _), (h.ow.kept hg (by intro e; injection e with e; exact h.ne.2.2 e)).mono (Nat.le_succ _), ho, h.ne, h.ge, k1, h.rC, h.rW, fun x => ?_, h.inj, fun x c hx => ⟨(h.apart x c hx).1, fun y hy => ?_, (h.apart x c hx).2.2⟩, k2, h.outs, k3, k4, k5⟩
  · show RefIs τ (if x = x0 then some b else fL x) (if x = x0 then t else s.L x)
    by_cases e : x = x0
    · rw [if_pos e, if_pos e]; exact ht
    · rw [if_neg e, if_neg e]; exact h.rL x
  · have hy : (if y = x0 then some b else fL y) = some c := hy
    by_cases e : y = x0
    · rw [if_pos e] at hy; exact uC x (hx.trans hy.symm)
    · rw [if_neg e] at hy; exact (h.apart x c hx).2.1 y hy
theorem WR.snoc (h : WR w0 w B bc bw bl n K eo s fC fW fL τ vo rs os) {vo' : Value} {r : Int × Option Nat} {o : Int × T} (hg : w.grownBy w' vo.ownBlock) (ho : Kd.R kSeen 171 w' B (fun _ => True) vo' (rs ++ [r])) (h1 : r.1 = o.1) (h2 : RefIs τ r.2 o.2) (uC : ∀ x b, fC x = some b → r.2 ≠ some b) : WR w0 w' B bc bw bl n K eo s fC fW fL τ vo' (rs ++ [r]) (os ++ [o]) := by
  obtain ⟨inner, hown⟩ := Kd.R_own h.out
  have hne : ∀ b es clock, w.heap[b]? = some (.map es clock) → some b ≠ vo.ownBlock := fun b es clock hb e => by
    obtain ⟨cells, hc⟩ := own_typed hown b e.symm
    rw [hb] at hc; cases hc
  obtain ⟨es1, cl1, m1⟩ := omap_block h.oc
  obtain ⟨es2, cl2, m2⟩ := omap_block h.ow
  obtain ⟨es3, cl3, m3⟩ := omap_block h.ol
  refine ⟨h.oc.kept hg (hne _ _ _ m1), h.ow.kept hg (hne _ _ _ m2), h.ol.kept hg (hne _ _ _ m3), h.ne, h.ge, fun b t hb => ⟨?_, (h.maps b t hb).2⟩, h.rC, h.rW, h.rL, h.inj, fun x b hx => ⟨(h.apart x b hx).1, (h.apart x b hx).2.1, fun q hq => ?_⟩, ho, ⟨by simp [h.outs.1], fun j p q hp hq => ?_⟩, fun be e he => ?_, h.bel.grown hg h.lo (fun k hk => own_base hown k hk), Nat.le_trans h.lo hg.size⟩
  · obtain ⟨es, cl, m⟩ := town_block (h.maps b t hb).1
    exact (h.maps b t hb).1.kept hg (hne _ _ _ m)
  · rcases List.mem_append.1 hq with hq | hq
    · exact (h.apart x b hx).2.2 q hq
    · rw [List.mem_singleton.1 hq]; exact uC x b hx
  · rcases Nat.lt_or_ge j rs.length with c | c
    · rw [List.getElem?_append_left c] at hp
      rw [List.getElem?_append_left (by have := h.outs.1; omega)] at hq
      exact h.outs.2 j p q hp hq
    · rw [List.getElem?_append_right c] at hp
      rw [List.getElem?_append_right (by have := h.outs.1; omega)] at hq
      have e1 := (List.getElem?_eq_some_iff.1 hp).1
      simp at e1
      have e2 : j - rs.length = 0 := by omega
      have e3 : j - os.length = 0 := by have := h.outs.1; omega
      rw [e2] at hp; rw [e3] at hq
      simp at hp hq
      subst hp hq
      exact ⟨h1, h2⟩
  · have hb := h.eb be e he
    have hlt : be < w.heap.size := (Array.getElem?_eq_some_iff.1 hb).1
    refine (hg.block be hlt (fun q => ?_)).trans hb
    obtain ⟨cells, hc⟩ := own_typed hown be q.symm
    rw [hb] at hc
    injection hc with hc
    injection hc with _ hc _
    cases hc
end
def ev (e : S128) : Ev := ⟨e.f0, e.f1, e.f2, e.f3⟩
def gl (l : List S128) (i : Nat) : Ev := ev (l.getD i z128)
theorem WR.start (W : World) (K : List Int) : WR W (((W.alloc (.map #[] 0)).alloc (.map #[] 0)).alloc (.map #[] 0)) W.heap.size W.heap.size (W.heap.size + 1) (W.heap.size + 1 + 1) 0 K none st0 (fun _ => none) (fun _ => none) (fun _ => none) (fun _ => none) (.slice none 0 0) [] [] := by
  have g1 := World.grownBy_alloc (W.alloc (.map #[] 0)) (.map #[] 0) none
  have g2 := World.grownBy_alloc ((W.alloc (.map #[] 0)).alloc (.map #[] 0)) (.map #[] 0) none
  have o1 : OMap Try.prog 3 (W.alloc (.map #[] 0)) W.heap.size 0 (fun _ => none) := OMap.made W
  have o2 : OMap Try.prog 3 ((W.alloc (.map #[] 0)).alloc (.map #[] 0)) (W.heap.size + 1) 0 (fun _ => none) := by have := OMap.made (P := Try.prog) (k := 3) (W.alloc (.map #[] 0)); simpa using this
  have o3 : OMap Try.prog 3 (((W.alloc (.map #[] 0)).alloc (.map #[] 0)).alloc (.map #[] 0)) (W.heap.size + 1 + 1) 0 (fun _ => none) := by have := OMap.made (P := Try.prog) (k := 3) ((W.alloc (.map #[] 0)).alloc (.map #[] 0)); simpa using this
  exact ⟨(o1.kept g1 (by simp)).kept g2 (by simp), o2.kept g2 (by simp), o3, by omega, by omega, fun b t h => (by cases h), fun x => rfl, fun x => rfl, fun x => rfl, fun x y b h => (by cases h), fun x b h => (by cases h), Kd.R_nil _ _ _ _ _, ⟨rfl, fun j r o h => (by simp at h)⟩, fun be e h => (by cases h), ((((Below.refl _ W).alloc (Nat.le_refl _) _).alloc (by simp) _).alloc (by simp; omega) _), by simp; omega⟩
def in64 (x : Int) : Prop := -9223372036854775808 ≤ x ∧ x ≤ 9223372036854775807
def EvOk (e : S128) : Prop := in64 e.f0 ∧ in64 e.f2
theorem rd_mem {l0 : List S128} {i : Int} (h0 : 0 ≤ i) (h1 : i < l0.length) : rd_T128 l0 i ∈ l0 := by
  unfold rd_T128
  rw [List.getD_eq_getElem?_getD, List.getElem?_eq_getElem (by omega : i.toNat < l0.length)]
  exact List.getElem_mem _
theorem gl_rd (l0 : List S128) (i : Int) : gl l0 i.toNat = ev (rd_T128 l0 i) := rfl
section
variable {w0 w w' : World} {B bc bw bl n : Nat} {K : List Int} {be : Nat} {e : S128} {s : St} {fC fW fL : Int → Option Nat} {τ : Nat → Option T} {vo : Value} {rs : List (Int × Option Nat)} {os : List (Int × T)}
theorem WR.cells (h : WR w0 w B bc bw bl n K (some (be, e)) s fC fW fL τ vo rs os) : w.cell? ⟨be, 0, none⟩ = some (.int .i64 e.f0) ∧ w.cell? ⟨be, 1, none⟩ = some (.int .i64 e.f1) ∧ w.cell? ⟨be, 2, none⟩ = some (.int .i64 e.f2) ∧ w.cell? ⟨be, 3, none⟩ = some (.bool e.f3) := by
  have hb := h.eb be e rfl
  refine ⟨?_, ?_, ?_, ?_⟩ <;> (rw [blk_cell hb]; rfl)
theorem WR.newC (h : WR w0 w B bc bw bl n K (some (be, e)) s fC fW fL τ vo rs os) {x0 : Int} (hx : fC x0 = none) (hg : (w.alloc (.map #[] 0)).grownBy w' (some bc)) (ho : OMap Try.prog 3 w' bc (n + 1) (upd fC x0 (some w.heap.size))) : WR w0 w' B bc bw bl (n + 1) K (some (be, e)) s (upd fC x0 (some w.heap.size)) fW fL (updN τ w.heap.size zeroT) vo rs os := by
  have h1 := h.fresh ((Below.refl _ w).alloc (Nat.le_refl _) (.map #[] 0)) (TOwn.made w K)
  have h2 := h1.putC (x0 := x0) hg ho (RefIs.self τ w.heap.size zeroT) (fun y e => by have := h.refC_lt e; omega) (fun y e => by have := h.refW_lt e; omega) (fun y e => by have := h.refL_lt e; omega) (fun r hr e => by have := h.refO_lt hr e; omega)
  have hz := h.rC x0
  rw [hx] at hz
  have : (⟨upd s.C x0 zeroT, s.W, s.L⟩ : St) = s := by
    have : upd s.C x0 zeroT = s.C := by funext y; show (if y = x0 then zeroT else s.C y) = _; by_cases q : y = x0; (rw [if_pos q, q]; exact hz.symm); (rw [if_neg q])
    rw [this]
  rw [this] at h2
  exact h2
end
section
variable {w0 w w' : World} {B bc bw bl n : Nat} {K : List Int} {eo : Option (Nat × S128)} {s : St} {fC fW fL : Int → Option Nat} {τ : Nat → Option T} {vo : Value} {rs : List (Int × Option Nat)} {os : List (Int × T)}
theorem upd_self {α : Type} (f : Int → α) (x : Int) : upd f x (f x) = f := by funext y; show (if y = x then f x else f y) = f y; by_cases q : y = x; (rw [if_pos q, q]); (rw [if_neg q])
theorem WR.same (h : WR w0 w B bc bw bl n K eo s fC fW fL τ vo rs os) (x : Int) {t : T} (ht : t = s.C x) : WR w0 w B bc bw bl n K eo ⟨upd s.C x t, s.W, s.L⟩ fC fW fL τ vo rs os := by rw [ht, upd_self]; exact h
theorem WR.ownC (h : WR w0 w B bc bw bl n K eo s fC fW fL τ vo rs os) {x : Int} {b : Nat} (hx : fC x = some b) : TOwn Try.prog 3 w b K (s.C x) := by have := h.rC x; rw [hx] at this; exact (h.maps b _ this).1
theorem WR.ownW (h : WR w0 w B bc bw bl n K eo s fC fW fL τ vo rs os) {x : Int} {b : Nat} (hx : fW x = some b) : TOwn Try.prog 3 w b K (s.W x) := by have := h.rW x; rw [hx] at this; exact (h.maps b _ this).1
theorem WR.ownL (h : WR w0 w B bc bw bl n K eo s fC fW fL τ vo rs os) {x : Int} {b : Nat} (hx : fL x = some b) : TOwn Try.prog 3 w b K (s.L x) := by have := h.rL x; rw [hx] at this; exact (h.maps b _ this).1
theorem WR.zeroW (h : WR w0 w B bc bw bl n K eo s fC fW fL τ vo rs os) {x : Int} (hx : fW x = none) : s.W x = zeroT := by have := h.rW x; rw [hx] at this; exact this
theorem WR.zeroL (h : WR w0 w B bc bw bl n K eo s fC fW fL τ vo rs os) {x : Int} (hx : fL x = none) : s.L x = zeroT := by have := h.rL x; rw [hx] at this; exact this
theorem join_zero {t : T} (h : ∀ x, 0 ≤ t x) : joinT t zeroT = t := by funext x; show max (t x) 0 = t x; have := h x; omega
end
theorem range_nil (w : World) : (Instr.range 169 (.map none)).run Try.prog w = .ok (.pointer (some ⟨w.heap.size, 0, none⟩)) (w.alloc (.mapIter none 0 #[] 0)) :=
  run_range_nilMap w 169 _ _ Try.underlying169
set_option maxHeartbeats 1000000 in
theorem join_nil (bt : Nat) (w : World) : Calls Try.prog 106 #[.map (some bt), .map none] w fun e w' => e = .returned (.tuple #[]) ∧ Below w.heap.size w w' := by
  have hr := range_nil
  go_enter Try.func106, Try.ntmps106
  go_wp2
  have hn := fun ty => run_next_nilMap (P := Try.prog) w ty 0 0 #[]
  go_loopw [4] (fun _ wr => wr = w.alloc (.mapIter none 0 #[] 0)) (fun _ _ => 0)
  case atStart => rfl
  case round =>
    subst hrel
    go_wp2
    ((try simp only [Exit.inBlock, Exit.then]); first | refine bodyPost_ret (results_none rfl _ _ _) rfl ?_ | refine bodyPost_end (results_none rfl _ _ _) rfl ?_)
    exact ⟨rfl, (Below.refl _ w).alloc (Nat.le_refl _) _⟩
theorem info171 : (Try.prog.info? 171).map (fun i => (i.zero, i.size, i.bytes)) = some (some (.agg #[.int .i64 0, .map none]), 2, 16) := by kernel_rfl
theorem kSeen_mk (w : World) (base : Nat) (ok : Nat → Prop) (x : Int × Option Nat) : kSeen.M w base ok x [.int .i64 x.1, .map x.2] := ⟨[.int .i64 x.1], [.map x.2], rfl, rfl, rfl⟩
theorem upd_upd {α : Type} (f : Int → α) (x : Int) (a b : α) : upd (upd f x a) x b = upd f x b := by
  funext y; show (if y = x then b else (if y = x then a else f y)) = if y = x then b else f y
  by_cases q : y = x; (rw [if_pos q, if_pos q]); (rw [if_neg q, if_neg q, if_neg q])
theorem range_snoc {α : Type} (g : Nat → α) (n : Nat) : (List.range (n + 1)).map g = (List.range n).map g ++ [g n] := by simp [List.range_succ]
theorem WR.round {w0 w : World} {B bc bw bl m : Nat} {K : List Int} {eo : Option (Nat × S128)} {s : St} {fC fW fL : Int → Option Nat} {τ : Nat → Option T} {vo : Value} {rs : List (Int × Option Nat)} {os : List (Int × T)} {g : Nat → Ev} {i : Int} (h : WR w0 w B bc bw bl m K eo s fC fW fL τ vo rs os) (i0 : 0 ≤ i) (hs : S g (i.toNat + 1) = s) (ho : (List.range (i.toNat + 1)).map (seenAt g) = os) (hm : m ≤ 3 * i.toNat + 3) : WR w0 w B bc bw bl (3 * (i + 1).toNat) K none (S g (i + 1).toNat) fC fW fL τ vo rs ((List.range (i + 1).toNat).map (seenAt g)) := by
  rw [show (i + 1).toNat = i.toNat + 1 by omega, hs, ho]
  exact (h.more (by omega)).drop
theorem omap_update {P : Program} {k : TypeId} {w : World} {b n : Nat} {f : Int → Option Nat} (h : OMap P k w b n f) (hk : P.underlying k = some (.int .i64)) {t e : TypeId} (ht : P.underlying t = some (.map k e)) (hn : n < maxLen) (x0 : Int) (hw : (Lit.int .i64 x0).wf = true) (r : Option Nat) : ∃ w', (Instr.mapUpdate t (.map (some b)) (.int .i64 x0) (.map r)).run P w = .ok () w' ∧ OMap P k w' b (n + 1) (upd f x0 r) ∧ w.grownBy w' (some b) := by
  obtain ⟨D, h, hr⟩ := h
  obtain ⟨w', hrun, h', hg⟩ := h.update (int_keyed hk) ht hn (keyOf_int_mk hk hw) (val := .map r) (d := encR r) (ps := []) rfl
  refine ⟨w', hrun, ⟨_, h', fun y => ?_⟩, hg⟩
  by_cases e : y = x0
  · subst e
    rw [atKey_put_same (k := .int .i64 y) h.isMap trivial]
    show _ = encR (if y = y then r else f y)
    rw [if_pos rfl]
  · rw [atKey_put_other (keyI_ne e), hr]
    show _ = encR (if y = x0 then r else f y)
    rw [if_neg e]
set_option maxRecDepth 100000 in
theorem town_look {w : World} {b : Nat} {K : List Int} {t : T} (h : TOwn Try.prog 3 w b K t) {x : Int} (hw : (Lit.int .i64 x).wf = true) : (Instr.lookup 169 (.map (some b)) (.int .i64 x) false).run Try.prog w = .ok (.int .i64 (t x)) w := by
  obtain ⟨D, h, hr, _⟩ := h
  obtain ⟨c, hrun, hat, _⟩ := h.lookup_int law3c Try.underlying169 Try.underlying3 (Try.zeroValue3 w) (keyOf_int_mk Try.underlying3 hw)
  rw [hr x] at hat
  injection hat with hat
  injection hat with _ hat
  subst hat
  exact hrun
theorem S_bad {g : Nat → Ev} {n : Nat} {e : Ev} (he : g n = e) (h : ¬ valid e) : S g (n + 1) = ⟨upd (S g n).C e.who (c1 (S g n) e), (S g n).W, (S g n).L⟩ := by
  have e1 : c1 (S g n) e = (S g n).C e.who := by
    unfold valid at h
    exact (if_neg (by omega)).trans (if_neg (by omega))
  rw [e1, upd_self]
  show stepS (S g n) (g n) = _
  rw [he]
  exact if_neg h
theorem c2_in {g : Nat → Ev} {n : Nat} {e : Ev} (he : g n = e) (hv : valid e) (x : Int) : 0 ≤ c2 (S g n) e x := by
  have := (known_c2 (inv (g := g) n) (by rw [he]; exact hv)).lo x
  rwa [he] at this
theorem S_store {g : Nat → Ev} {n : Nat} {e : Ev} (he : g n = e) (h : valid e) (hs : e.kind = 1) : S g (n + 1) = ⟨upd (S g n).C e.who (c2 (S g n) e), upd (S g n).W e.at_ (c2 (S g n) e), (S g n).L⟩ := by
  show stepS (S g n) (g n) = _
  rw [he]
  unfold stepS
  rw [if_pos h, if_pos (show stores e from hs), if_neg (show ¬ frees e from fun q => by have := q.1; omega)]
theorem S_free {g : Nat → Ev} {n : Nat} {e : Ev} (he : g n = e) (h : valid e) (hs : frees e) : S g (n + 1) = ⟨upd (S g n).C e.who (c2 (S g n) e), (S g n).W, upd (S g n).L e.at_ (joinT (c2 (S g n) e) ((S g n).L e.at_))⟩ := by
  show stepS (S g n) (g n) = _
  rw [he]
  unfold stepS
  rw [if_pos h, if_neg (show ¬ stores e from fun q => by have := hs.1; have q : e.kind = 1 := q; omega), if_pos hs]
theorem S_else {g : Nat → Ev} {n : Nat} {e : Ev} (he : g n = e) (h : valid e) (h1 : ¬ e.kind = 1) (h2 : ¬ frees e) : S g (n + 1) = ⟨upd (S g n).C e.who (c2 (S g n) e), (S g n).W, (S g n).L⟩ := by
  show stepS (S g n) (g n) = _
  rw [he]
  unfold stepS
  rw [if_pos h, if_neg (show ¬ stores e from h1), if_neg h2]
theorem out_good {g : Nat → Ev} {n : Nat} {e : Ev} (he : g n = e) (h : valid e) : seenAt g n = (c2 (S g n) e e.who, c2 (S g n) e) := by unfold seenAt; rw [he]; exact if_pos h
theorem out_bad {g : Nat → Ev} {n : Nat} {e : Ev} (he : g n = e) (h : ¬ valid e) : seenAt g n = (0, zeroT) := by unfold seenAt; rw [he]; exact if_neg h
theorem c1_in {g : Nat → Ev} {n : Nat} {e : Ev} (he : g n = e) : 0 ≤ c1 (S g n) e e.who ∧ c1 (S g n) e e.who ≤ n := by
  have := c1_me (inv (g := g) n)
  rw [he] at this
  rw [this]
  exact ⟨cnt_nonneg _ _, cnt_le _ _⟩
set_option maxHeartbeats 4000000 in
set_option maxRecDepth 100000 in
theorem walk_calls (l0 : List S128) (A0 : Option Addr) (c0 : Nat) (W : World) (hC : Kd.C k128 W A0 l0.length l0) (hc0 : l0.length ≤ c0) (hl : l0.length ≤ 1000000) (hok : ∀ e ∈ l0, EvOk e) :
    Calls Try.prog 81 #[.slice A0 l0.length c0] W fun e w' => ∃ bc bw bl n fC fW fL τ vo rs, e = .returned vo ∧ WR W w' W.heap.size bc bw bl n (l0.map (·.f0)) none (S (gl l0) l0.length) fC fW fL τ vo rs ((List.range l0.length).map (seenAt (gl l0))) := by
  have HC := Aside0.mk hC
  have HS := Aside0.mk (WR.start W (l0.map (·.f0)))
  have HOK := Aside0.mk hok
  have hmm := @run_makeMap Try.prog
  clear hC hok
  go_enter Try.func81, Try.ntmps81
  go_wp2
  go_loopw [3, 16] (fun v3 v16 wr => ∃ (i : Int) (fC fW fL : Int → Option Nat) (τ : Nat → Option T) (rs : List (Int × Option Nat)), v16 = .int .i64 i ∧ Aside0 (0 ≤ i ∧ i ≤ l0.length) ∧ Aside0 (WR W wr W.heap.size W.heap.size (W.heap.size + 1) (W.heap.size + 1 + 1) (3 * i.toNat) (l0.map (·.f0)) none (S (gl l0) i.toNat) fC fW fL τ v3 rs ((List.range i.toNat).map (seenAt (gl l0))))) (fun _ v16 _ => (l0.length - intOf v16).toNat)
  case atStart => exact ⟨0, _, _, _, _, _, rfl, ⟨by omega, by omega⟩, HS⟩
  case round =>
    clear HS
    obtain ⟨i, fC, fW, fL, τ, rs, rfl, HI, HW⟩ := hrel
    have i0 := HI.out.1
    by_cases hlt : i < (l0.length : Int)
    · have hltb := decide_eq_true hlt
      obtain ⟨ad, rfl, hx0, hx1, hx2, hx3⟩ := at_T128 (Kd.C_below HC.out (HW.out.bel)) i i0 hlt
      have HE := Aside0.mk (HOK.out _ (rd_mem i0 hlt))
      have HM := Aside0.mk (List.mem_map_of_mem (f := (·.f0)) (rd_mem i0 hlt))
      have HG := Aside0.mk (gl_rd l0 i)
      have hKl : (l0.map (·.f0)).length ≤ 1000000 := by rw [List.length_map]; exact hl
      go_upto_region 7 with fail
      have HW1 := Aside0.mk ((HW.out.below ((Below.refl _ wr).alloc (Nat.le_refl _) (.cells #[.int .i64 (rd_T128 l0 i).f0, .int .i64 (rd_T128 l0 i).f1, .int .i64 (rd_T128 l0 i).f2, .bool (rd_T128 l0 i).f3] 128))).laid (blk_new wr _))
      have hbe : wr.heap.size = wr.heap.size := rfl
      clear HW hx0 hx1 hx2 hx3
      generalize wr.alloc (.cells #[.int .i64 (rd_T128 l0 i).f0, .int .i64 (rd_T128 l0 i).f1, .int .i64 (rd_T128 l0 i).f2, .bool (rd_T128 l0 i).f3] 128) = W1 at HW1 ⊢
      generalize wr.heap.size = be at HW1 ⊢
      generalize hee : rd_T128 l0 i = e at HE HM HG HW1 ⊢
      generalize hKK : l0.map (·.f0) = K at HM HW1 hKl ⊢
      obtain ⟨he0, he1, he2, he3⟩ := HW1.out.cells
      have hq := fun w => run_eql_map_nil_sl (P := Try.prog) w 169 _ _ (fC e.f0) Try.underlying169
      go_upto_if 25 with (first | (at_lookup; refine wpList_lookup_R _ Try.underlying3 rfl _ _ 172 169 rfl Try.underlying172 (Try.zeroValue169 _) W.heap.size (3 * i.toNat) fC rfl HW1.out.oc e.f0 rfl (WalkArith.wf_i64 (by have := HE.out.1; unfold in64 at this; omega)) ?_))
      go_cut [9] from 17 to 116 (fun v9 w' => ∃ (b : Nat) (fC' : Int → Option Nat) (τ' : Nat → Option T), v9 = .map (some b) ∧ Aside0 (fC' e.f0 = some b) ∧ Aside0 (WR W w' W.heap.size W.heap.size (W.heap.size + 1) (W.heap.size + 1 + 1) (3 * i.toNat + 1) K (some (be, e)) (S (gl l0) i.toNat) fC' fW fL τ' u3 rs ((List.range i.toNat).map (seenAt (gl l0)))))
      case first =>
        cases hc : fC e.f0 with
        | none =>
          have hcb : (fC e.f0).isNone = true := by rw [hc]; rfl
          have he0' := pw_cell_below ((Below.refl _ W1).alloc (Nat.le_refl _) (.map #[] 0)) he0
          go_wp2_with (first | (at_mapUpdate; refine wpList_update_R _ Try.underlying3 rfl _ _ _ 172 169 rfl Try.underlying172 W.heap.size (3 * i.toNat) fC rfl (HW1.out.oc.kept (World.grownBy_alloc W1 (.map #[] 0) none) (by simp)) (by unfold maxLen; omega) e.f0 rfl (WalkArith.wf_i64 (by have := HE.out.1; unfold in64 at this; omega)) (some W1.heap.size) rfl ?_; intro w2 ho2 hg2))
          go_meet
          case rel => exact ⟨_, _, _, rfl, ⟨if_pos rfl⟩, ⟨HW1.out.newC hc hg2 ho2⟩⟩
        | some b =>
          have hcb : (fC e.f0).isNone = false := by rw [hc]; rfl
          go_wp2
          go_meet
          case rel => exact ⟨b, fC, τ, rfl, ⟨hc⟩, ⟨HW1.out.more (Nat.le_succ _)⟩⟩
      case rest =>
        clear HW1 he0 he1 he2 he3 hq
        obtain ⟨b, fC', τ', rfl, HB, HW2⟩ := hcut
        obtain ⟨he0, he1, he2, he3⟩ := HW2.out.cells
        go_upto_block 2 with fail
        go_cut [] from 17 to 116 (fun w' => ∃ τ2 : Nat → Option T, Aside0 (WR W w' W.heap.size W.heap.size (W.heap.size + 1) (W.heap.size + 1 + 1) (3 * i.toNat + 1) K (some (be, e)) ⟨upd (S (gl l0) i.toNat).C e.f0 (c1 (S (gl l0) i.toNat) (ev e)), (S (gl l0) i.toNat).W, (S (gl l0) i.toNat).L⟩ fC' fW fL τ2 u3 rs ((List.range i.toNat).map (seenAt (gl l0)))))
        case first =>
          have HN := Aside0.mk (fun x => (clocks_in (g := gl l0) i.toNat e.f0 x).1)
          by_cases k0 : e.f1 = 0
          · have k0b := decide_eq_true k0
            have HC1 : Aside0 (c1 (S (gl l0) i.toNat) (ev e) = joinT ((S (gl l0) i.toNat).C e.f0) ((S (gl l0) i.toNat).W e.f2)) := ⟨if_pos k0⟩
            cases hw : fW e.f2 with
            | none =>
              go_wp2_with (first | (at_lookup; refine wpList_lookup_R _ Try.underlying3 rfl _ _ 172 169 rfl Try.underlying172 (Try.zeroValue169 _) (W.heap.size + 1) (3 * i.toNat + 1) fW rfl HW2.out.ow e.f2 rfl (WalkArith.wf_i64 (by have := HE.out.2; unfold in64 at this; omega)) ?_) | (go_at_call 106; (with_reducible refine (join_nil b _).mono ?_); rintro e_ w2 ⟨rfl, hb2⟩))
              go_meet
              case rel => exact ⟨_, ⟨(HW2.out.below hb2).same e.f0 (by rw [HC1.out, HW2.out.zeroW hw, join_zero HN.out])⟩⟩
            | some bu =>
              have HJ := Aside0.mk (join_T b bu K ((S (gl l0) i.toNat).C e.f0) ((S (gl l0) i.toNat).W e.f2) wc (HW2.out.ownC HB.out) (HW2.out.ownW hw) (fun q => (HW2.out.apart _ _ HB.out).1 e.f2 (by rw [hw, q])) hKl HN.out)
              go_wp2_with (first | (at_lookup; refine wpList_lookup_R _ Try.underlying3 rfl _ _ 172 169 rfl Try.underlying172 (Try.zeroValue169 _) (W.heap.size + 1) (3 * i.toNat + 1) fW rfl HW2.out.ow e.f2 rfl (WalkArith.wf_i64 (by have := HE.out.2; unfold in64 at this; omega)) ?_) | (go_at_call 106; (with_reducible refine HJ.out.mono ?_); rintro e_ w2 ⟨rfl, ht2, hg2⟩))
              go_meet
              case rel => exact ⟨_, ⟨HC1.out ▸ HW2.out.turnC HB.out hg2 ht2⟩⟩
          · have k0b := decide_eq_false k0
            by_cases k4 : e.f1 = 4
            · have k4b := decide_eq_true k4
              cases ho : e.f3 with
              | true =>
                have HC1 : Aside0 (c1 (S (gl l0) i.toNat) (ev e) = joinT ((S (gl l0) i.toNat).C e.f0) ((S (gl l0) i.toNat).L e.f2)) := ⟨(if_neg k0).trans (if_pos ⟨k4, ho⟩)⟩
                cases hw : fL e.f2 with
                | none =>
                  go_wp2_with (first | (at_lookup; refine wpList_lookup_R _ Try.underlying3 rfl _ _ 172 169 rfl Try.underlying172 (Try.zeroValue169 _) (W.heap.size + 1 + 1) (3 * i.toNat + 1) fL rfl HW2.out.ol e.f2 rfl (WalkArith.wf_i64 (by have := HE.out.2; unfold in64 at this; omega)) ?_) | (go_at_call 106; (with_reducible refine (join_nil b _).mono ?_); rintro e_ w2 ⟨rfl, hb2⟩))
                  go_meet
                  case rel => exact ⟨_, ⟨(HW2.out.below hb2).same e.f0 (by rw [HC1.out, HW2.out.zeroL hw, join_zero HN.out])⟩⟩
                | some bu =>
                  have HJ := Aside0.mk (join_T b bu K ((S (gl l0) i.toNat).C e.f0) ((S (gl l0) i.toNat).L e.f2) wc (HW2.out.ownC HB.out) (HW2.out.ownL hw) (fun q => (HW2.out.apart _ _ HB.out).2.1 e.f2 (by rw [hw, q])) hKl HN.out)
                  go_wp2_with (first | (at_lookup; refine wpList_lookup_R _ Try.underlying3 rfl _ _ 172 169 rfl Try.underlying172 (Try.zeroValue169 _) (W.heap.size + 1 + 1) (3 * i.toNat + 1) fL rfl HW2.out.ol e.f2 rfl (WalkArith.wf_i64 (by have := HE.out.2; unfold in64 at this; omega)) ?_) | (go_at_call 106; (with_reducible refine HJ.out.mono ?_); rintro e_ w2 ⟨rfl, ht2, hg2⟩))
                  go_meet
                  case rel => exact ⟨_, ⟨HC1.out ▸ HW2.out.turnC HB.out hg2 ht2⟩⟩
              | false =>
                have HC1 : Aside0 (c1 (S (gl l0) i.toNat) (ev e) = (S (gl l0) i.toNat).C e.f0) := ⟨(if_neg k0).trans (if_neg (fun q => by have q2 : e.f3 = true := q.2; rw [ho] at q2; cases q2))⟩
                go_wp2
                go_meet
                case rel => exact ⟨_, ⟨HW2.out.same e.f0 HC1.out⟩⟩
            · have k4b := decide_eq_false k4
              have HC1 : Aside0 (c1 (S (gl l0) i.toNat) (ev e) = (S (gl l0) i.toNat).C e.f0) := ⟨(if_neg k0).trans (if_neg (fun q => k4 q.1))⟩
              go_wp2
              go_meet
              case rel => exact ⟨_, ⟨HW2.out.same e.f0 HC1.out⟩⟩
        case rest =>
          clear HW2 he0 he1 he2 he3
          obtain ⟨τ2, HW3⟩ := hcut
          obtain ⟨he0, he1, he2, he3⟩ := HW3.out.cells
          have hrl : rs.length ≤ 1000000 := by have h1 := HW3.out.outs.1; rw [List.length_map, List.length_range] at h1; omega
          by_cases hv : valid (ev e)
          · have HV := Aside0.mk hv
            have v0 : ¬ e.f1 < 0 := by have h : 0 ≤ e.f1 := hv.1; omega
            have v7 : ¬ 7 < e.f1 := by have h : e.f1 ≤ 7 := hv.2; omega
            have v0b := decide_eq_false v0
            have v7b := decide_eq_false v7
            have HCI := Aside0.mk (c1_in (g := gl l0) (n := i.toNat) (HG.out.trans rfl))
            have hOC : TOwn Try.prog 3 wc b K (c1 (S (gl l0) i.toNat) (ev e)) := by
              have h : TOwn Try.prog 3 wc b K (upd (S (gl l0) i.toNat).C e.f0 (c1 (S (gl l0) i.toNat) (ev e)) e.f0) := HW3.out.ownC HB.out
              rwa [show upd (S (gl l0) i.toNat).C e.f0 (c1 (S (gl l0) i.toNat) (ev e)) e.f0 = c1 (S (gl l0) i.toNat) (ev e) from if_pos rfl] at h
            have HOC := Aside0.mk hOC
            have y0 : 0 ≤ c1 (S (gl l0) i.toNat) (ev e) e.f0 := HCI.out.1
            have y1 : c1 (S (gl l0) i.toNat) (ev e) e.f0 ≤ 1000000 := by have h2 : c1 (S (gl l0) i.toNat) (ev e) e.f0 ≤ (i.toNat : Int) := HCI.out.2; omega
            clear hOC HCI
            go_upto_block 3 with (first | (at_lookup; refine wpList_lookup_T _ Try.underlying3 rfl _ _ 169 rfl Try.underlying169 (Try.zeroValue3 _) b K _ rfl HOC.out e.f0 rfl (WalkArith.wf_i64 (by have := HE.out.1; unfold in64 at this; omega)) ?_; intro hwt) | (at_mapUpdate; refine wpList_update_T _ Try.underlying3 rfl _ _ _ 169 rfl Try.underlying169 b K _ rfl HOC.out (by unfold maxLen; omega) e.f0 rfl (WalkArith.wf_i64 (by have := HE.out.1; unfold in64 at this; omega)) HM.out (c1 (S (gl l0) i.toNat) (ev e) e.f0 + 1) rfl (WalkArith.wf_i64 (by omega)) ?_; intro w2 ht2 hg2))
            have HW4 : Aside0 (WR W w2 W.heap.size W.heap.size (W.heap.size + 1) (W.heap.size + 1 + 1) (3 * i.toNat + 1) K (some (be, e)) ⟨upd (S (gl l0) i.toNat).C e.f0 (c2 (S (gl l0) i.toNat) (ev e)), (S (gl l0) i.toNat).W, (S (gl l0) i.toNat).L⟩ fC' fW fL (updN τ2 b (c2 (S (gl l0) i.toNat) (ev e))) u3 rs ((List.range i.toNat).map (seenAt (gl l0)))) := ⟨by
              have h := HW3.out.turnC HB.out hg2 ht2
              rw [upd_upd] at h
              exact h⟩
            clear HW3 HOC ht2 hg2 he0 he1 he2 he3
            go_frame
            obtain ⟨he0, he1, he2, he3⟩ := HW4.out.cells
            go_cut [] from 17 to 116 (fun w' => ∃ (fW' fL' : Int → Option Nat) (τ3 : Nat → Option T), Aside0 (WR W w' W.heap.size W.heap.size (W.heap.size + 1) (W.heap.size + 1 + 1) (3 * i.toNat + 2) K (some (be, e)) (S (gl l0) (i.toNat + 1)) fC' fW' fL' τ3 u3 rs ((List.range i.toNat).map (seenAt (gl l0)))))
            case first =>
              by_cases k1 : e.f1 = 1
              · have k1b := decide_eq_true k1
                have HT := Aside0.mk (show TOwn Try.prog 3 w2 b K (c2 (S (gl l0) i.toNat) (ev e)) from by
                  have h : TOwn Try.prog 3 w2 b K (upd (S (gl l0) i.toNat).C e.f0 (c2 (S (gl l0) i.toNat) (ev e)) e.f0) := HW4.out.ownC HB.out
                  rwa [show upd (S (gl l0) i.toNat).C e.f0 (c2 (S (gl l0) i.toNat) (ev e)) e.f0 = c2 (S (gl l0) i.toNat) (ev e) from if_pos rfl] at h)
                have HWD := Aside0.mk (HW4.out.below (below_drew (Below.refl _ _)))
                have HTD := Aside0.mk (HT.out.kept (grown_of_below (below_drew (Below.refl _ _)) none) (by simp))
                go_wp2
                go_region_held3 (fun w' => w'.cell? ⟨be, 2, none⟩ = some (.int .i64 e.f2))
                  (first | exact he2 | exact hN | exact hN6)
                  (first | (go_at_call 107; (with_reducible refine (clone_T b K (c2 (S (gl l0) i.toNat) (ev e)) _ HTD.out).mono ?_); rintro e_ w5 ⟨rfl, ht5, hb5, hs5⟩; have HW5 := Aside0.mk (HWD.out.fresh hb5 ht5); have hN := HW5.out.cells.2.2.1; obtain ⟨w6, hr6, ho6, hg6⟩ := omap_update HW5.out.ow Try.underlying3 Try.underlying172 (by unfold maxLen; omega) e.f2 (WalkArith.wf_i64 (by have := HE.out.2; unfold in64 at this; omega)) (some w2.heap.size); have HW6 := Aside0.mk (HW5.out.putW hg6 ho6 (RefIs.self _ _ _) (fun y q => Nat.lt_irrefl _ (HWD.out.refC_lt q))); have hN6 := HW6.out.cells.2.2.1))
                all_goals
                  go_wp2
                  go_meet
                  case rel => exact ⟨_, _, _, ⟨by rw [S_store HG.out HV.out k1]; exact HW6.out⟩⟩
              · have k1b := decide_eq_false k1
                have HT := Aside0.mk (show TOwn Try.prog 3 w2 b K (c2 (S (gl l0) i.toNat) (ev e)) from by
                  have h : TOwn Try.prog 3 w2 b K (upd (S (gl l0) i.toNat).C e.f0 (c2 (S (gl l0) i.toNat) (ev e)) e.f0) := HW4.out.ownC HB.out
                  rwa [show upd (S (gl l0) i.toNat).C e.f0 (c2 (S (gl l0) i.toNat) (ev e)) e.f0 = c2 (S (gl l0) i.toNat) (ev e) from if_pos rfl] at h)
                have HN2 := Aside0.mk (c2_in (n := i.toNat) HG.out HV.out)
                by_cases kf : (e.f1 = 5 ∨ e.f1 = 6) ∧ e.f3 = true
                · obtain ⟨k56, k3⟩ := kf
                  have HF : Aside0 (frees (ev e)) := ⟨⟨k56, k3⟩⟩
                  cases hw : fL e.f2 with
                  | none =>
                    rcases k56 with k56 | k56
                    all_goals
                      have k56b := decide_eq_true k56
                      go_wp2_with (first | (go_at_call 107; (with_reducible refine (clone_T b K (c2 (S (gl l0) i.toNat) (ev e)) _ HT.out).mono ?_); rintro e_ w5 ⟨rfl, ht5, hb5, hs5⟩; have HW5 := Aside0.mk (HW4.out.fresh hb5 ht5); obtain ⟨hf0, hf1, hf2, hf3⟩ := HW5.out.cells) | (at_lookup; refine wpList_lookup_R _ Try.underlying3 rfl _ _ 172 169 rfl Try.underlying172 (Try.zeroValue169 _) (W.heap.size + 1 + 1) (3 * i.toNat + 1) fL rfl HW5.out.ol e.f2 rfl (WalkArith.wf_i64 (by have := HE.out.2; unfold in64 at this; omega)) ?_) | (go_at_call 106; (with_reducible refine (join_nil w2.heap.size _).mono ?_); rintro e_ w6 ⟨rfl, hb6⟩; have HW6 := Aside0.mk (HW5.out.below hb6); obtain ⟨hg0, hg1, hg2, hg3⟩ := HW6.out.cells) | (at_mapUpdate; refine wpList_update_R _ Try.underlying3 rfl _ _ _ 172 169 rfl Try.underlying172 (W.heap.size + 1 + 1) (3 * i.toNat + 1) fL rfl HW6.out.ol (by unfold maxLen; omega) e.f2 rfl (WalkArith.wf_i64 (by have := HE.out.2; unfold in64 at this; omega)) (some w2.heap.size) rfl ?_; intro w7 ho7 hg7))
                      go_meet
                      case rel => exact ⟨_, _, _, ⟨by rw [S_free HG.out HV.out HF.out, show (S (gl l0) i.toNat).L (ev e).at_ = zeroT from HW4.out.zeroL hw, join_zero HN2.out]; exact HW6.out.putL hg7 ho7 (RefIs.self _ _ _) (fun y q => Nat.lt_irrefl _ (HW4.out.refC_lt q))⟩⟩
                  | some bu =>
                    rcases k56 with k56 | k56
                    all_goals
                      have k56b := decide_eq_true k56
                      go_wp2_with (first | (go_at_call 107; (with_reducible refine (clone_T b K (c2 (S (gl l0) i.toNat) (ev e)) _ HT.out).mono ?_); rintro e_ w5 ⟨rfl, ht5, hb5, hs5⟩; have HW5 := Aside0.mk (HW4.out.fresh hb5 ht5); obtain ⟨hf0, hf1, hf2, hf3⟩ := HW5.out.cells; have HT5 := Aside0.mk ht5) | (at_lookup; refine wpList_lookup_R _ Try.underlying3 rfl _ _ 172 169 rfl Try.underlying172 (Try.zeroValue169 _) (W.heap.size + 1 + 1) (3 * i.toNat + 1) fL rfl HW5.out.ol e.f2 rfl (WalkArith.wf_i64 (by have := HE.out.2; unfold in64 at this; omega)) ?_) | (go_at_call 106; (with_reducible refine (join_T w2.heap.size bu K (c2 (S (gl l0) i.toNat) (ev e)) ((S (gl l0) i.toNat).L e.f2) _ HT5.out (HW5.out.ownL hw) (fun q => by have := HW4.out.refL_lt hw; omega) hKl HN2.out).mono ?_); rintro e_ w6 ⟨rfl, ht6, hg6⟩; have HW6 := Aside0.mk (HW5.out.turnN (RefIs.self _ _ _) (fun y q => Nat.lt_irrefl _ (HW4.out.refC_lt q)) (fun y q => Nat.lt_irrefl _ (HW4.out.refW_lt q)) (fun y q => Nat.lt_irrefl _ (HW4.out.refL_lt q)) (fun r hr q => Nat.lt_irrefl _ (HW4.out.refO_lt hr q)) hg6 ht6); obtain ⟨hg0, hg1, hg2, hg3⟩ := HW6.out.cells) | (at_mapUpdate; refine wpList_update_R _ Try.underlying3 rfl _ _ _ 172 169 rfl Try.underlying172 (W.heap.size + 1 + 1) (3 * i.toNat + 1) fL rfl HW6.out.ol (by unfold maxLen; omega) e.f2 rfl (WalkArith.wf_i64 (by have := HE.out.2; unfold in64 at this; omega)) (some w2.heap.size) rfl ?_; intro w7 ho7 hg7))
                      go_meet
                      case rel => exact ⟨_, _, _, ⟨by rw [S_free HG.out HV.out HF.out]; exact HW6.out.putL hg7 ho7 (RefIs.self _ _ _) (fun y q => Nat.lt_irrefl _ (HW4.out.refC_lt q))⟩⟩
                · have HF : Aside0 (¬ frees (ev e)) := ⟨kf⟩
                  have kq : (¬ e.f1 = 5 ∧ ¬ e.f1 = 6) ∨ e.f3 = false := by
                    by_cases k3 : e.f3 = true
                    · left; exact ⟨fun q => kf ⟨Or.inl q, k3⟩, fun q => kf ⟨Or.inr q, k3⟩⟩
                    · right; simpa using k3
                  clear kf
                  rcases kq with ⟨q5, q6⟩ | q3
                  · have q5b := decide_eq_false q5
                    have q6b := decide_eq_false q6
                    go_wp2
                    go_meet
                    case rel => exact ⟨_, _, _, ⟨by rw [S_else HG.out HV.out k1 HF.out]; exact HW4.out.more (by omega)⟩⟩
                  · by_cases q5 : e.f1 = 5
                    · have q5b := decide_eq_true q5
                      go_wp2
                      go_meet
                      case rel => exact ⟨_, _, _, ⟨by rw [S_else HG.out HV.out k1 HF.out]; exact HW4.out.more (by omega)⟩⟩
                    · have q5b := decide_eq_false q5
                      by_cases q6 : e.f1 = 6
                      · have q6b := decide_eq_true q6
                        go_wp2
                        go_meet
                        case rel => exact ⟨_, _, _, ⟨by rw [S_else HG.out HV.out k1 HF.out]; exact HW4.out.more (by omega)⟩⟩
                      · have q6b := decide_eq_false q6
                        go_wp2
                        go_meet
                        case rel => exact ⟨_, _, _, ⟨by rw [S_else HG.out HV.out k1 HF.out]; exact HW4.out.more (by omega)⟩⟩
            case rest =>
              obtain ⟨fW', fL', τ3, HW5⟩ := hcut
              have HCC : Aside0 ((S (gl l0) (i.toNat + 1)).C e.f0 = c2 (S (gl l0) i.toNat) (ev e)) := ⟨by
                have h : S (gl l0) (i.toNat + 1) = stepS (S (gl l0) i.toNat) (gl l0 i.toNat) := rfl
                rw [h, HG.out]
                unfold stepS
                rw [if_pos HV.out]
                exact if_pos rfl⟩
              have HWF := Aside0.mk (WalkArith.wf_i64 (show -9223372036854775808 ≤ e.f0 ∧ e.f0 ≤ 9223372036854775807 from by have := HE.out.1; unfold in64 at this; omega))
              have HSO : ∀ {w w' : World} {n : Nat} {fC fW fL : Int → Option Nat} {τ : Nat → Option T} {vo : Value} {rs : List (Int × Option Nat)} {os : List (Int × T)}, WR w w' W.heap.size W.heap.size (W.heap.size + 1) (W.heap.size + 1 + 1) n K (some (be, e)) (S (gl l0) (i.toNat + 1)) fC fW fL τ vo rs os → fC e.f0 = some b → w'.cell? ⟨be, 0, none⟩ = some (.int .i64 e.f0) ∧ (Instr.lookup 169 (.map (some b)) (.int .i64 e.f0) false).run Try.prog w' = .ok (.int .i64 (c2 (S (gl l0) i.toNat) (ev e) e.f0)) w' := fun h hf => ⟨h.cells.1, by have q := town_look (h.ownC hf) HWF.out; rw [HCC.out] at q; exact q⟩
              have HSA := Aside0.mk @HSO
              clear HSO HW4 he0 he1 he2 he3
              have HWD := Aside0.mk (HW5.out.below (below_drew (Below.refl _ _)))
              have hS0 := HSA.out HW5.out HB.out
              have hSD := HSA.out HWD.out HB.out
              have HTD := Aside0.mk (HCC.out ▸ HWD.out.ownC HB.out)
              go_wp2
              go_region_held_law (fun w' => w'.cell? ⟨be, 0, none⟩ = some (.int .i64 e.f0) ∧ (Instr.lookup 169 (.map (some b)) (.int .i64 e.f0) false).run Try.prog w' = .ok (.int .i64 (c2 (S (gl l0) i.toNat) (ev e) e.f0)) w')
                (first | exact hS0 | exact hSD | exact hS6 | exact HSA.out (HW6.out.below ((Below.refl _ _).alloc (Nat.le_refl _) _)) HB.out | exact hS7)
                (first | (go_at_call 107; (with_reducible refine (clone_T b K (c2 (S (gl l0) i.toNat) (ev e)) _ HTD.out).mono ?_); rintro e_ w6 ⟨rfl, ht6, hb6, -⟩; have HW6 := Aside0.mk (HWD.out.fresh hb6 ht6); have hS6 := HSA.out HW6.out HB.out) | (refine Kd.R_append_step kSeen (w0 := W) (W := w6) W.heap.size (by rfl) (.tmp 106) (.tmp 114) 130 171 (.agg #[.int .i64 0, .map none]) 16 (by rfl) Try.underlying130 info171 rfl (by decide) (by omega) u3 rs ((c2 (S (gl l0) i.toNat) (ev e) e.f0, some wc.heap.size) : Int × Option Nat) [.int .i64 (c2 (S (gl l0) i.toNat) (ev e) e.f0), .map (some wc.heap.size)] (fun _ => True) (fun _ => False) (by rfl) (by rfl) (kSeen_mk _ _ _ _) (fun _ hk => hk.elim) (fun _ _ => trivial) HW6.out.out HW6.out.bel HW6.out.lo (by omega) ?_; intro v7 w7 ho7 hb7 hg7 hat7; have HW7 := Aside0.mk (HW6.out.snoc (o := (c2 (S (gl l0) i.toNat) (ev e) e.f0, c2 (S (gl l0) i.toNat) (ev e))) hg7 ho7 rfl (RefIs.self _ _ _) (fun y b' q q2 => by injection q2 with q2; subst q2; exact Nat.lt_irrefl _ (HWD.out.refC_lt q))); have hS7 := HSA.out HW7.out HB.out))
              all_goals
                simp only [List.getElem_toArray, List.getElem_cons_succ, List.getElem_cons_zero, List.setIfInBounds_toArray, List.set_cons_succ, List.set_cons_zero]
                go_wp2
                go_roundw
                case rel => exact ⟨i + 1, fC', fW', fL', _, _, by go_num, ⟨by omega, by omega⟩, ⟨by rw [hKK]; exact HW7.out.round i0 rfl (by rw [range_snoc, out_good HG.out HV.out]; rfl) (by omega)⟩⟩
                case measure => simp [intOf]; omega
          · have HV := Aside0.mk hv
            have hv2 : e.f1 < 0 ∨ 7 < e.f1 := by
              have h : ¬ (0 ≤ e.f1 ∧ e.f1 ≤ 7) := hv
              omega
            clear hv
            rcases hv2 with hv2 | hv2
            all_goals
              have hvb := decide_eq_true hv2
              go_wp2_with (at_builtin; refine Kd.R_append kSeen (w0 := W) W.heap.size (by rfl) (.tmp 63) (.tmp 65) 130 171 (.agg #[.int .i64 0, .map none]) 16 rfl Try.underlying130 info171 rfl (by decide) (by omega) u3 rs ((0, none) : Int × Option Nat) [.int .i64 0, .map none] (fun _ => True) (fun _ => False) rfl rfl (kSeen_mk _ _ _ _) (fun _ hk => hk.elim) (fun _ _ => trivial) HW3.out.out HW3.out.bel HW3.out.lo (by omega) ?_; intro v1 w1 ho1 hb1 hg1 hat1)
              go_roundw
              case rel => exact ⟨i + 1, fC', fW, fL, τ2, rs ++ [(0, none)], by go_num, ⟨by omega, by omega⟩, ⟨by rw [hKK]; exact (HW3.out.snoc (o := (0, zeroT)) hg1 ho1 rfl rfl (fun _ _ _ => by simp)).round i0 (S_bad HG.out HV.out) (by rw [range_snoc, out_bad HG.out HV.out]) (by omega)⟩⟩
              case measure => simp [intOf]; omega
    · have hltb := decide_eq_false hlt
      have hi : i.toNat = l0.length := by have := HI.out.2; omega
      go_wp2
      go_ret
      exact ⟨_, _, _, _, _, _, _, _, _, rfl, _, by rw [hi] at HW; exact HW.out⟩
structure SeenR (w : World) (B : Nat) (l : List S128) (vo : Value) : Prop where
  mk :: (out : ∃ (rs : List (Int × Option Nat)) (τ : Nat → Option T) (K : List Int), Kd.R kSeen 171 w B (fun _ => True) vo rs ∧ (∀ b t, τ b = some t → TOwn Try.prog 3 w b K t ∧ B ≤ b) ∧ rs.length = l.length ∧ ∀ (j : Nat) (r : Int × Option Nat), rs[j]? = some r → r.1 = (seenAt (gl l) j).1 ∧ RefIs τ r.2 (seenAt (gl l) j).2)
theorem WR.seen {w0 w : World} {B bc bw bl n : Nat} {K : List Int} {eo : Option (Nat × S128)} {s : St} {fC fW fL : Int → Option Nat} {τ : Nat → Option T} {vo : Value} {rs : List (Int × Option Nat)} {l : List S128} (h : WR w0 w B bc bw bl n K eo s fC fW fL τ vo rs ((List.range l.length).map (seenAt (gl l)))) : SeenR w B l vo := by
  refine ⟨rs, τ, K, h.out, fun b t ht => ⟨(h.maps b t ht).1, (h.maps b t ht).2.1⟩, by have := h.outs.1; simpa using this, fun j r hr => ?_⟩
  have hj : j < rs.length := (List.getElem?_eq_some_iff.1 hr).1
  have hj2 : j < l.length := by have := h.outs.1; simp at this; omega
  exact h.outs.2 j r (seenAt (gl l) j) hr (by simp [hj2])
theorem SeenR.below {w w' : World} {B : Nat} {l : List S128} {vo : Value} (h : SeenR w B l vo) (hb : Below w.heap.size w w') : SeenR w' B l vo := by
  obtain ⟨rs, τ, K, h1, h2, h3, h4⟩ := h.out
  exact ⟨rs, τ, K, Kd.R_below h1 hb, fun b t ht => ⟨(h2 b t ht).1.kept (grown_of_below hb none) (by simp), (h2 b t ht).2⟩, h3, h4⟩
theorem SeenR.slice {w : World} {B : Nat} {l : List S128} {vo : Value} (h : SeenR w B l vo) : ∃ A c, vo = .slice A l.length c := by
  obtain ⟨rs, τ, K, h1, h2, h3, h4⟩ := h.out
  obtain ⟨A, c, e⟩ := Kd.R_slice h1
  exact ⟨A, c, by rw [e, h3]⟩
theorem SeenR.at_ {w : World} {B : Nat} {l : List S128} {A : Option Addr} {c : Nat} (h : SeenR w B l (.slice A l.length c)) (i : Int) (h0 : 0 ≤ i) (h1 : i < l.length) : ∃ ad r, A = some ad ∧ w.cell? (ad.add (i.toNat * 2)) = some (.int .i64 (seenAt (gl l) i.toNat).1) ∧ w.cell? ⟨(ad.add (i.toNat * 2)).block, (ad.add (i.toNat * 2)).off + 1, none⟩ = some (.map r) ∧
    ∀ x : Int, (Lit.int .i64 x).wf = true → (Instr.lookup 169 (.map r) (.int .i64 x) false).run Try.prog w = .ok (.int .i64 ((seenAt (gl l) i.toNat).2 x)) w := by
  obtain ⟨rs, τ, K, hr, h2, h3, h4⟩ := h.out
  obtain ⟨A', c', e, hle, hC⟩ := Kd.R_reads hr
  injection e with e1 e2 e3
  subst e1 e3
  obtain ⟨ad, cs, hA, hlen, hK, hc⟩ := Kd.C_get hC ((0, none) : Int × Option Nat) i h0 (by omega)
  obtain ⟨q0, q1, rfl, z0, z1⟩ := hK
  have z0 : q0 = [.int .i64 (rs.getD i.toNat (0, none)).1] := z0
  have z1 : q1 = [.map (rs.getD i.toNat (0, none)).2] := z1
  subst z0 z1
  have hg : rs[i.toNat]? = some (rs.getD i.toNat (0, none)) := by
    rw [List.getD_eq_getElem?_getD, List.getElem?_eq_getElem (by omega : i.toNat < rs.length)]; rfl
  obtain ⟨k1, k2⟩ := h4 _ _ hg
  refine ⟨ad, (rs.getD i.toNat (0, none)).2, hA, ?_, by rw [← add_field _ _ 1 (by omega)]; exact hc 1 _ rfl, fun x hw => ?_⟩
  · have := hc 0 _ rfl
    rw [k1] at this
    exact this
  · cases hm : (rs.getD i.toNat (0, none)).2 with
    | none =>
      rw [hm] at k2
      have k2 : (seenAt (gl l) i.toNat).2 = zeroT := k2
      rw [k2]
      have := Maps.look_nil (w := w) false law3c Try.underlying169 (Try.zeroValue3 w) (keyOf_int_mk Try.underlying3 hw)
      exact this
    | some b =>
      rw [hm] at k2
      exact town_look (h2 b _ k2).1 hw
theorem walk_seen (l0 : List S128) (A0 : Option Addr) (c0 : Nat) (W : World) (hC : Kd.C k128 W A0 l0.length l0) (hc0 : l0.length ≤ c0) (hl : l0.length ≤ 1000000) (hok : ∀ e ∈ l0, EvOk e) :
    Calls Try.prog 81 #[.slice A0 l0.length c0] W fun e w' => ∃ A c, e = .returned (.slice A l0.length c) ∧ SeenR w' W.heap.size l0 (.slice A l0.length c) ∧ Below W.heap.size W w' := by
  refine (walk_calls l0 A0 c0 W hC hc0 hl hok).mono ?_
  rintro e w' ⟨bc, bw, bl, n, fC, fW, fL, τ, vo, rs, rfl, h⟩
  obtain ⟨A, c, rfl⟩ := h.seen.slice
  exact ⟨A, c, rfl, h.seen, h.bel⟩
set_option maxHeartbeats 4000000 in
set_option maxRecDepth 100000 in
theorem before_calls (l0 : List S128) (A0 : Option Addr) (c0 : Nat) (B : Nat) (AS : Option Addr) (cS : Nat) (i j : Int) (w : World) (hC : Kd.C k128 w A0 l0.length l0) (hc0 : l0.length ≤ c0) (hS : SeenR w B l0 (.slice AS l0.length cS)) (hok : ∀ e ∈ l0, EvOk e) (i0 : 0 ≤ i) (il : i < l0.length) (j0 : 0 ≤ j) (jl : j < l0.length) :
    Calls Try.prog 80 #[.slice A0 l0.length c0, .slice AS l0.length cS, .int .i64 i, .int .i64 j] w fun e w' => e = .returned (.bool (bef (gl l0) i.toNat j.toNat)) ∧ Below w.heap.size w w' := by
  obtain ⟨ad, hA, hx0, hx1, hx2, hx3⟩ := at_T128 hC i i0 il
  have HE := Aside0.mk (hok _ (rd_mem i0 il))
  obtain ⟨as_, r1, hAS, hy0, hy1, hyl⟩ := hS.at_ i i0 il
  obtain ⟨as2, r2, hAS2, hz0, hz1, hzl⟩ := hS.at_ j j0 jl
  obtain ⟨as3, r3, hAS3, hv0, hv1, hvl⟩ := (hS.below (below_drew (Below.refl _ w))).at_ j j0 jl
  subst hA hAS
  injection hAS2 with hAS2
  injection hAS3 with hAS3
  subst hAS2 hAS3
  obtain rfl : r3 = r2 := by
    have e := hv1.symm.trans hz1
    injection e with e
    injection e
  have hw0 : (Lit.int .i64 (rd_T128 l0 i).f0).wf = true := WalkArith.wf_i64 (by have := HE.out.1; unfold in64 at this; omega)
  have hlk := hzl _ hw0
  have hlkd := hvl _ hw0
  have HG := Aside0.mk (gl_rd l0 i)
  clear hyl hzl hvl hv0 hv1 hz0 hS hC hx1 hx2 hx3 hy1
  have HB : Aside0 (bef (gl l0) i.toNat j.toNat = (decide ((seenAt (gl l0) i.toNat).1 > 0) && decide ((seenAt (gl l0) j.toNat).2 (rd_T128 l0 i).f0 ≥ (seenAt (gl l0) i.toNat).1))) := ⟨rfl⟩
  generalize (seenAt (gl l0) i.toNat).1 = o at *
  generalize (seenAt (gl l0) j.toNat).2 (rd_T128 l0 i).f0 = kn at *
  have ic : i < (l0.length : Int) := il
  have jc : j < (l0.length : Int) := jl
  have p0 := eq_true i0
  have p1 := eq_true ic
  have p2 := eq_true j0
  have p3 := eq_true jc
  by_cases ho : o > 0
  · have hob := decide_eq_true ho
    have HOB := Aside0.mk hob
    by_cases hk : kn ≥ o
    · have hkb := decide_eq_true hk
      have HKB := Aside0.mk hkb
      go_enter Try.func80, Try.ntmps80
      go_wp2
      go_region_held3 (fun w' => w'.cell? (as_.add (i.toNat * 2)) = some (.int .i64 o) ∧ w'.cell? ⟨(as_.add (j.toNat * 2)).block, (as_.add (j.toNat * 2)).off + 1, none⟩ = some (.map r3) ∧ w'.cell? (ad.add (i.toNat * 4)) = some (.int .i64 (rd_T128 l0 i).f0) ∧ (Instr.lookup 169 (.map r3) (.int .i64 (rd_T128 l0 i).f0) false).run Try.prog w' = .ok (.int .i64 kn) w') (first | exact ⟨hy0, hz1, hx0, hlk⟩ | exact ⟨hy0, hz1, hx0, hlkd⟩) (fail)
      go_wp2
      go_ret
      exact ⟨by rw [HB.out, HOB.out, HKB.out]; rfl, below_drew (Below.refl _ _)⟩
    · have hkb := decide_eq_false hk
      have HKB := Aside0.mk hkb
      go_enter Try.func80, Try.ntmps80
      go_wp2
      go_region_held3 (fun w' => w'.cell? (as_.add (i.toNat * 2)) = some (.int .i64 o) ∧ w'.cell? ⟨(as_.add (j.toNat * 2)).block, (as_.add (j.toNat * 2)).off + 1, none⟩ = some (.map r3) ∧ w'.cell? (ad.add (i.toNat * 4)) = some (.int .i64 (rd_T128 l0 i).f0) ∧ (Instr.lookup 169 (.map r3) (.int .i64 (rd_T128 l0 i).f0) false).run Try.prog w' = .ok (.int .i64 kn) w') (first | exact ⟨hy0, hz1, hx0, hlk⟩ | exact ⟨hy0, hz1, hx0, hlkd⟩) (fail)
      go_wp2
      go_ret
      exact ⟨by rw [HB.out, HOB.out, HKB.out]; rfl, below_drew (Below.refl _ _)⟩
  · have hob := decide_eq_false ho
    have HOB := Aside0.mk hob
    go_enter Try.func80, Try.ntmps80
    go_wp2
    refine start_ (n := 26) (S := fun w' => w'.cell? (as_.add (i.toNat * 2)) = some (.int .i64 o)) (ds := []) #[false, false, false, false, false, false, false, false, false, false, false, false, false, false, false, false, false, false, false, false, false, false, false, false, false, false] (by kernel_rfl) rfl rfl hy0 (fun hHeld => ?_)
    refine pure_ (i := 0) (N := some 9) (v := ?_) (a' := ?_) #[true, false, false, false, false, false, false, false, false, false, false, false, false, false, false, false, false, false, false, false, false, false, false, false, false, false] rfl rfl (by kernel_rfl) (fun _ _ _ h => h) (Or.inl ⟨by rfl, ?_⟩) ?_ ?_
    rotate_left
    · intro w'
      go_simp
      with_reducible rfl
    rotate_left
    · simp only [Act.put, List.setIfInBounds_toArray, List.set_cons_zero, List.set_cons_succ]
      rfl
    refine pure_ (i := 1) (N := some 10) (v := ?_) (a' := ?_) #[true, true, false, false, false, false, false, false, false, false, false, false, false, false, false, false, false, false, false, false, false, false, false, false, false, false] rfl rfl (by kernel_rfl) (fun _ _ _ h => h) (Or.inl ⟨by rfl, ?_⟩) ?_ ?_
    rotate_left
    · intro w'
      go_simp
      with_reducible rfl
    rotate_left
    · simp only [Act.put, List.setIfInBounds_toArray, List.set_cons_zero, List.set_cons_succ]
      rfl
    refine pure_ (i := 2) (N := some 11) (v := ?_) (a' := ?_) #[true, true, true, false, false, false, false, false, false, false, false, false, false, false, false, false, false, false, false, false, false, false, false, false, false, false] rfl rfl (by kernel_rfl) (fun _ _ _ h => h) (Or.inl ⟨by rfl, ?_⟩) ?_ ?_
    rotate_left
    · intro w'
      go_simp
      with_reducible rfl
    rotate_left
    · simp only [Act.put, List.setIfInBounds_toArray, List.set_cons_zero, List.set_cons_succ]
      rfl
    refine pure_ (i := 3) (N := some 12) (v := ?_) (a' := ?_) #[true, true, true, true, false, false, false, false, false, false, false, false, false, false, false, false, false, false, false, false, false, false, false, false, false, false] rfl rfl (by kernel_rfl) (fun _ _ _ h => h) (Or.inl ⟨by rfl, ?_⟩) ?_ ?_
    rotate_left
    · intro w'
      go_simp
      with_reducible rfl
    rotate_left
    · simp only [Act.put, List.setIfInBounds_toArray, List.set_cons_zero, List.set_cons_succ]
      rfl
    refine take_ (i := 4) (N := some 13) (v := ?_) (a' := ?_) #[true, true, true, true, true, false, false, false, false, false, false, false, false, false, false, false, false, false, false, false, false, false, false, false, false, false] rfl rfl (by kernel_rfl) (fun _ _ _ h => h) (Or.inl ⟨by rfl, ?_⟩) hHeld ?_ ?_
    rotate_left
    · rintro w' s0
      go_simp
      with_reducible rfl
    rotate_left
    · simp only [Act.put, List.setIfInBounds_toArray, List.set_cons_zero, List.set_cons_succ]
      rfl
    refine pure_ (i := 5) (N := some 14) (v := ?_) (a' := ?_) #[true, true, true, true, true, true, false, false, false, false, false, false, false, false, false, false, false, false, false, false, false, false, false, false, false, false] rfl rfl (by kernel_rfl) (fun _ _ _ h => h) (Or.inl ⟨by rfl, ?_⟩) ?_ ?_
    rotate_left
    · intro w'
      go_simp
      with_reducible rfl
    rotate_left
    · simp only [Act.put, List.setIfInBounds_toArray, List.set_cons_zero, List.set_cons_succ]
      rfl
    refine pure_ (i := 6) (N := some 15) (v := ?_) (a' := ?_) #[true, true, true, true, true, true, true, false, false, false, false, false, false, false, false, false, false, false, false, false, false, false, false, false, false, false] rfl rfl (by kernel_rfl) (fun _ _ _ h => h) (Or.inl ⟨by rfl, ?_⟩) ?_ ?_
    rotate_left
    · intro w'
      go_simp
      with_reducible rfl
    rotate_left
    · simp only [Act.put, List.setIfInBounds_toArray, List.set_cons_zero, List.set_cons_succ]
      rfl
    refine pure_ (i := 7) (N := some 16) (v := undef) (a' := ?_) #[true, true, true, true, true, true, true, true, false, false, false, false, false, false, false, false, false, false, false, false, false, false, false, false, false, false] rfl rfl (by kernel_rfl) (fun _ _ _ h => h) (Or.inr ⟨by rfl, rfl⟩) ?_ ?_
    rotate_left
    · simp only [Act.put, List.setIfInBounds_toArray, List.set_cons_zero, List.set_cons_succ]
      rfl
    refine pure_ (i := 8) (N := some 17) (v := undef) (a' := ?_) #[true, true, true, true, true, true, true, true, true, false, false, false, false, false, false, false, false, false, false, false, false, false, false, false, false, false] rfl rfl (by kernel_rfl) (fun _ _ _ h => h) (Or.inr ⟨by rfl, rfl⟩) ?_ ?_
    rotate_left
    · simp only [Act.put, List.setIfInBounds_toArray, List.set_cons_zero, List.set_cons_succ]
      rfl
    refine pure_ (i := 9) (N := some 18) (v := undef) (a' := ?_) #[true, true, true, true, true, true, true, true, true, true, false, false, false, false, false, false, false, false, false, false, false, false, false, false, false, false] rfl rfl (by kernel_rfl) (fun _ _ _ h => h) (Or.inr ⟨by rfl, rfl⟩) ?_ ?_
    rotate_left
    · simp only [Act.put, List.setIfInBounds_toArray, List.set_cons_zero, List.set_cons_succ]
      rfl
    refine pure_ (i := 10) (N := some 19) (v := undef) (a' := ?_) #[true, true, true, true, true, true, true, true, true, true, true, false, false, false, false, false, false, false, false, false, false, false, false, false, false, false] rfl rfl (by kernel_rfl) (fun _ _ _ h => h) (Or.inr ⟨by rfl, rfl⟩) ?_ ?_
    rotate_left
    · simp only [Act.put, List.setIfInBounds_toArray, List.set_cons_zero, List.set_cons_succ]
      rfl
    refine pure_ (i := 11) (N := some 20) (v := undef) (a' := ?_) #[true, true, true, true, true, true, true, true, true, true, true, true, false, false, false, false, false, false, false, false, false, false, false, false, false, false] rfl rfl (by kernel_rfl) (fun _ _ _ h => h) (Or.inr ⟨by rfl, rfl⟩) ?_ ?_
    rotate_left
    · simp only [Act.put, List.setIfInBounds_toArray, List.set_cons_zero, List.set_cons_succ]
      rfl
    refine pure_ (i := 12) (N := some 21) (v := undef) (a' := ?_) #[true, true, true, true, true, true, true, true, true, true, true, true, true, false, false, false, false, false, false, false, false, false, false, false, false, false] rfl rfl (by kernel_rfl) (fun _ _ _ h => h) (Or.inr ⟨by rfl, rfl⟩) ?_ ?_
    rotate_left
    · simp only [Act.put, List.setIfInBounds_toArray, List.set_cons_zero, List.set_cons_succ]
      rfl
    refine pure_ (i := 13) (N := some 22) (v := undef) (a' := ?_) #[true, true, true, true, true, true, true, true, true, true, true, true, true, true, false, false, false, false, false, false, false, false, false, false, false, false] rfl rfl (by kernel_rfl) (fun _ _ _ h => h) (Or.inr ⟨by rfl, rfl⟩) ?_ ?_
    rotate_left
    · simp only [Act.put, List.setIfInBounds_toArray, List.set_cons_zero, List.set_cons_succ]
      rfl
    refine pure_ (i := 14) (N := some 23) (v := undef) (a' := ?_) #[true, true, true, true, true, true, true, true, true, true, true, true, true, true, true, false, false, false, false, false, false, false, false, false, false, false] rfl rfl (by kernel_rfl) (fun _ _ _ h => h) (Or.inr ⟨by rfl, rfl⟩) ?_ ?_
    rotate_left
    · simp only [Act.put, List.setIfInBounds_toArray, List.set_cons_zero, List.set_cons_succ]
      rfl
    refine pure_ (i := 15) (N := some 24) (v := undef) (a' := ?_) #[true, true, true, true, true, true, true, true, true, true, true, true, true, true, true, true, false, false, false, false, false, false, false, false, false, false] rfl rfl (by kernel_rfl) (fun _ _ _ h => h) (Or.inr ⟨by rfl, rfl⟩) ?_ ?_
    rotate_left
    · simp only [Act.put, List.setIfInBounds_toArray, List.set_cons_zero, List.set_cons_succ]
      rfl
    refine pure_ (i := 16) (N := some 25) (v := undef) (a' := ?_) #[true, true, true, true, true, true, true, true, true, true, true, true, true, true, true, true, true, false, false, false, false, false, false, false, false, false] rfl rfl (by kernel_rfl) (fun _ _ _ h => h) (Or.inr ⟨by rfl, rfl⟩) ?_ ?_
    rotate_left
    · simp only [Act.put, List.setIfInBounds_toArray, List.set_cons_zero, List.set_cons_succ]
      rfl
    refine pure_ (i := 17) (N := some 26) (v := undef) (a' := ?_) #[true, true, true, true, true, true, true, true, true, true, true, true, true, true, true, true, true, true, false, false, false, false, false, false, false, false] rfl rfl (by kernel_rfl) (fun _ _ _ h => h) (Or.inr ⟨by rfl, rfl⟩) ?_ ?_
    rotate_left
    · simp only [Act.put, List.setIfInBounds_toArray, List.set_cons_zero, List.set_cons_succ]
      rfl
    refine pure_ (i := 18) (N := some 27) (v := undef) (a' := ?_) #[true, true, true, true, true, true, true, true, true, true, true, true, true, true, true, true, true, true, true, false, false, false, false, false, false, false] rfl rfl (by kernel_rfl) (fun _ _ _ h => h) (Or.inr ⟨by rfl, rfl⟩) ?_ ?_
    rotate_left
    · simp only [Act.put, List.setIfInBounds_toArray, List.set_cons_zero, List.set_cons_succ]
      rfl
    refine pure_ (i := 19) (N := some 28) (v := undef) (a' := ?_) #[true, true, true, true, true, true, true, true, true, true, true, true, true, true, true, true, true, true, true, true, false, false, false, false, false, false] rfl rfl (by kernel_rfl) (fun _ _ _ h => h) (Or.inr ⟨by rfl, rfl⟩) ?_ ?_
    rotate_left
    · simp only [Act.put, List.setIfInBounds_toArray, List.set_cons_zero, List.set_cons_succ]
      rfl
    refine pure_ (i := 20) (N := some 29) (v := undef) (a' := ?_) #[true, true, true, true, true, true, true, true, true, true, true, true, true, true, true, true, true, true, true, true, true, false, false, false, false, false] rfl rfl (by kernel_rfl) (fun _ _ _ h => h) (Or.inr ⟨by rfl, rfl⟩) ?_ ?_
    rotate_left
    · simp only [Act.put, List.setIfInBounds_toArray, List.set_cons_zero, List.set_cons_succ]
      rfl
    refine pure_ (i := 21) (N := some 30) (v := undef) (a' := ?_) #[true, true, true, true, true, true, true, true, true, true, true, true, true, true, true, true, true, true, true, true, true, true, false, false, false, false] rfl rfl (by kernel_rfl) (fun _ _ _ h => h) (Or.inr ⟨by rfl, rfl⟩) ?_ ?_
    rotate_left
    · simp only [Act.put, List.setIfInBounds_toArray, List.set_cons_zero, List.set_cons_succ]
      rfl
    refine pure_ (i := 22) (N := some 31) (v := undef) (a' := ?_) #[true, true, true, true, true, true, true, true, true, true, true, true, true, true, true, true, true, true, true, true, true, true, true, false, false, false] rfl rfl (by kernel_rfl) (fun _ _ _ h => h) (Or.inr ⟨by rfl, rfl⟩) ?_ ?_
    rotate_left
    · simp only [Act.put, List.setIfInBounds_toArray, List.set_cons_zero, List.set_cons_succ]
      rfl
    refine pure_ (i := 23) (N := some 32) (v := undef) (a' := ?_) #[true, true, true, true, true, true, true, true, true, true, true, true, true, true, true, true, true, true, true, true, true, true, true, true, false, false] rfl rfl (by kernel_rfl) (fun _ _ _ h => h) (Or.inr ⟨by rfl, rfl⟩) ?_ ?_
    rotate_left
    · simp only [Act.put, List.setIfInBounds_toArray, List.set_cons_zero, List.set_cons_succ]
      rfl
    refine pure_ (i := 24) (N := some 33) (v := ?_) (a' := ?_) #[true, true, true, true, true, true, true, true, true, true, true, true, true, true, true, true, true, true, true, true, true, true, true, true, true, false] rfl rfl (by kernel_rfl) (fun _ _ _ h => h) (Or.inl ⟨by rfl, ?_⟩) ?_ ?_
    rotate_left
    · intro w'
      go_simp
      with_reducible rfl
    rotate_left
    · simp only [Act.put, List.setIfInBounds_toArray, List.set_cons_zero, List.set_cons_succ]
      rfl
    refine pure_ (i := 25) (N := some 8) (v := ?_) (a' := ?_) #[true, true, true, true, true, true, true, true, true, true, true, true, true, true, true, true, true, true, true, true, true, true, true, true, true, true] rfl rfl (by kernel_rfl) (fun _ _ _ h => h) (Or.inl ⟨by rfl, ?_⟩) ?_ ?_
    rotate_left
    · intro w'
      go_simp
      with_reducible rfl
    rotate_left
    · simp only [Act.put, List.setIfInBounds_toArray, List.set_cons_zero, List.set_cons_succ]
      rfl
    refine done_ (by kernel_rfl) ?_
    go_wp2
    go_ret
    exact ⟨by rw [HB.out, HOB.out, Bool.false_and]; rfl, below_drew (Below.refl _ _)⟩
def EvB (e : S128) : Bool := decide (-9223372036854775808 ≤ e.f0) && decide (e.f0 ≤ 9223372036854775807) && decide (-9223372036854775808 ≤ e.f2) && decide (e.f2 ≤ 9223372036854775807)
theorem evB {e : S128} (h : EvB e = true) : EvOk e := by
  unfold EvB at h
  simp only [Bool.and_eq_true, decide_eq_true_iff] at h
  exact ⟨⟨h.1.1.1, h.1.1.2⟩, h.1.2, h.2⟩
def evsB (l : List S128) : Bool := decide (l.length ≤ 1000000) && l.all EvB
theorem evsB_spec {l : List S128} (h : evsB l = true) : l.length ≤ 1000000 ∧ ∀ e ∈ l, EvOk e := by
  unfold evsB at h
  rw [Bool.and_eq_true, decide_eq_true_iff, List.all_eq_true] at h
  exact ⟨h.1, fun e he => evB (h.2 e he)⟩
def clock_Before.f (l0 : List S128) (a1 a2 : Int) : Option Bool := if evsB l0 = true then some (decide (0 ≤ a1) && decide (a1 < a2) && decide (a2 < l0.length) && bef (gl l0) a1.toNat a2.toNat) else none
set_option maxHeartbeats 1000000 in
set_option maxRecDepth 100000 in
theorem clock_Before.calls (A0 : Option Addr) (c0 : Nat) (l0 : List S128) (a1 a2 : Int) (r : Bool) (w : World) (hr0 : Kd.C k128 w A0 l0.length l0) (hc0 : l0.length ≤ c0) (h : clock_Before.f l0 a1 a2 = some r) :
    Calls Try.prog 27 #[.slice A0 l0.length c0, .int .i64 a1, .int .i64 a2] w fun e w' => e = .returned (.bool r) ∧ Below w.heap.size w w' := by
  unfold clock_Before.f at h
  by_cases hok : evsB l0 = true
  · rw [if_pos hok] at h
    obtain ⟨hl, hok⟩ := evsB_spec hok
    have HR := Aside0.mk (Option.some.inj h)
    have HOK := Aside0.mk hok
    have HC := Aside0.mk hr0
    clear h hok hr0
    by_cases h0 : 0 ≤ a1
    · have h0b := decide_eq_true h0
      by_cases h1 : a1 < a2
      · have h1b := decide_eq_true h1
        by_cases h2 : a2 < (l0.length : Int)
        · have h2b := decide_eq_true h2
          have HRR : Aside0 (bef (gl l0) a1.toNat a2.toNat = r) := ⟨by have := HR.out; rw [decide_eq_true h0, decide_eq_true h1, decide_eq_true h2] at this; simpa using this⟩
          have hi : a1 < (l0.length : Int) := by omega
          have hj : 0 ≤ a2 := by omega
          go_enter Try.func27, Try.ntmps27
          go_wp2_with (first | (go_at_call 81; (with_reducible refine (walk_seen l0 A0 c0 _ HC.out hc0 hl HOK.out).mono ?_); rintro e_ w1 ⟨AS, cS, rfl, hs1, hb1⟩; have HS1 := Aside0.mk hs1; have HB1 := Aside0.mk hb1) | (go_at_call 80; (with_reducible refine (before_calls l0 A0 c0 _ AS cS a1 a2 _ (Kd.C_below HC.out HB1.out) hc0 HS1.out HOK.out h0 hi hj h2).mono ?_); rintro e_ w2 ⟨rfl, hb2⟩; have HB2 := Aside0.mk hb2))
          go_ret
          exact ⟨by rw [HRR.out]; rfl, HB1.out.trans (HB2.out.mono HB1.out.size)⟩
        · have h2b := decide_eq_false h2
          have HRR : Aside0 (false = r) := ⟨by have := HR.out; rw [decide_eq_false h2] at this; simpa using this⟩
          go_enter Try.func27, Try.ntmps27
          go_wp2
          go_ret
          exact ⟨by rw [← HRR.out]; rfl, Below.refl _ _⟩
      · have h1b := decide_eq_false h1
        have HRR : Aside0 (false = r) := ⟨by have := HR.out; rw [decide_eq_false h1] at this; simpa using this⟩
        go_enter Try.func27, Try.ntmps27
        go_wp2
        go_ret
        exact ⟨by rw [← HRR.out]; rfl, Below.refl _ _⟩
    · have h0b := decide_eq_false h0
      have HRR : Aside0 (false = r) := ⟨by have := HR.out; rw [decide_eq_false h0] at this; simpa using this⟩
      go_enter Try.func27, Try.ntmps27
      go_wp2
      go_ret
      exact ⟨by rw [← HRR.out]; rfl, Below.refl _ _⟩
  · rw [if_neg hok] at h; cases h
open Go.RowKit Go.Proofs.YtlcnckbmolefpaaW.PrintWords Go.Proofs.YtlcnckbmolefpaaW.PrintLast Go.Proofs.YtlcnckbmolefpaaW.PrintMore
attribute [local go_sem] max2_int min2_int max_two min_two max_three min_three max_four min_four   -- for this text's walks alone
/-! ### clock_plain: function 82 -/
def clock_plain.f (a0_0 : Int) (a0_1 : Int) (a0_2 : Int) (a0_3 : Bool) : Option (Bool) := if a0_1 = 2 then (some true) else (some (a0_1 == 3))
set_option maxHeartbeats 8000000 in
set_option maxRecDepth 100000 in
theorem clock_plain.calls (a0_0 : Int) (a0_1 : Int) (a0_2 : Int) (a0_3 : Bool) (r : Bool) (w : World) (h : clock_plain.f a0_0 a0_1 a0_2 a0_3 = some r) :
    Calls Try.prog 82 #[.agg #[.int .i64 a0_0, .int .i64 a0_1, .int .i64 a0_2, .bool a0_3]] w fun e w' => e = .returned (.bool r) ∧ Below w.heap.size w w' := by
  have hu128 := Try.underlying128
  have HB := Aside0.mk (Below.refl w.heap.size w)
  have H : (if a0_1 = 2 then (some true) else (some (a0_1 == 3))) = some r := h
  clear h
  by_cases c2 : a0_1 = 2
  · rw [if_pos c2] at H
    have c2b0 : (a0_1 == 2) = true := beq_iff_eq.mpr c2
    have c2b1 : (a0_1 != 2) = false := bne_eq_false_iff_eq.mpr c2
    clear c2
    obtain rfl := Option.some.inj H
    go_enter Try.func82, Try.ntmps82
    go_wp2_with (first | ((with_reducible refine gate_dst (N := 1) rfl ?_); refine box_event ?hg (N := 1) ?hd (cs := #[.int .i64 a0_0, .int .i64 a0_1, .int .i64 a0_2, .bool a0_3]) (t := 128) ?hr ?_; (case hd => rfl); (case hg => rfl); (case hr => first | (go_simp; done) | (go_simp; rfl)); intro gb179 hg w3 hbox hb; have n0_ := Aside0.mk (below_step (by repeat (first | (with_reducible first | exact HB.out | apply below_alloc | apply pw_below_drewN | apply below_drew1) | exact HB.out)) hb); have n1_ := Aside0.mk (hbox); have n2_ := Aside0.mk ((by rw [hg]; exact (below_size (by repeat (first | (with_reducible first | exact HB.out | apply below_alloc | apply pw_below_drewN | apply below_drew1) | exact HB.out))) : w.heap.size ≤ gb179)); have n3_ := Aside0.mk ((by rw [hg]; exact (below_size (by repeat (first | (with_reducible first | exact HB.out | apply below_alloc | apply pw_below_drewN | apply below_drew1) | exact HB.out))) : w.heap.size ≤ gb179)); clear HB; have HB := n0_; have BK179 := n1_; have GW179 := n2_; have GE179 := n3_; clear n0_ n1_ n2_ n3_; clear hb hbox hg; have hcz4_0 : w3.cell? ⟨gb179, 0, none⟩ = some (.int .i64 a0_0) := (blk_cell BK179.out 0).trans rfl; have hcz4_1 : w3.cell? ⟨gb179, 1, none⟩ = some (.int .i64 a0_1) := (blk_cell BK179.out 1).trans rfl; have hcz4_2 : w3.cell? ⟨gb179, 2, none⟩ = some (.int .i64 a0_2) := (blk_cell BK179.out 2).trans rfl; have hcz4_3 : w3.cell? ⟨gb179, 3, none⟩ = some (.bool a0_3) := (blk_cell BK179.out 3).trans rfl; have hfz4_0 := blk_frozen BK179.out 0; have hfz4_1 := blk_frozen BK179.out 1; have hfz4_2 := blk_frozen BK179.out 2; have hfz4_3 := blk_frozen BK179.out 3))
    go_ret
    exact ⟨by first | rfl | (simp [errW_none, errW_some] <;> rfl) | (simp [*, errW_none, errW_some] <;> rfl), by repeat (first | (with_reducible first | exact HB.out | apply below_alloc | apply pw_below_drewN | apply below_drew1 | refine below_set ?_ GE179.out) | exact HB.out)⟩
  · rw [if_neg c2] at H
    have c2b0 : (a0_1 == 2) = false := beq_eq_false_iff_ne.mpr c2
    have c2b1 : (a0_1 != 2) = true := bne_iff_ne.mpr c2
    obtain rfl := Option.some.inj H
    go_enter Try.func82, Try.ntmps82
    go_wp2_with (first | ((with_reducible refine gate_dst (N := 1) rfl ?_); refine box_event ?hg (N := 1) ?hd (cs := #[.int .i64 a0_0, .int .i64 a0_1, .int .i64 a0_2, .bool a0_3]) (t := 128) ?hr ?_; (case hd => rfl); (case hg => rfl); (case hr => first | (go_simp; done) | (go_simp; rfl)); intro gb179 hg w5 hbox hb; have n0_ := Aside0.mk (below_step (by repeat (first | (with_reducible first | exact HB.out | apply below_alloc | apply pw_below_drewN | apply below_drew1) | exact HB.out)) hb); have n1_ := Aside0.mk (hbox); have n2_ := Aside0.mk ((by rw [hg]; exact (below_size (by repeat (first | (with_reducible first | exact HB.out | apply below_alloc | apply pw_below_drewN | apply below_drew1) | exact HB.out))) : w.heap.size ≤ gb179)); have n3_ := Aside0.mk ((by rw [hg]; exact (below_size (by repeat (first | (with_reducible first | exact HB.out | apply below_alloc | apply pw_below_drewN | apply below_drew1) | exact HB.out))) : w.heap.size ≤ gb179)); clear HB; have HB := n0_; have BK179 := n1_; have GW179 := n2_; have GE179 := n3_; clear n0_ n1_ n2_ n3_; clear hb hbox hg; have hcz6_0 : w5.cell? ⟨gb179, 0, none⟩ = some (.int .i64 a0_0) := (blk_cell BK179.out 0).trans rfl; have hcz6_1 : w5.cell? ⟨gb179, 1, none⟩ = some (.int .i64 a0_1) := (blk_cell BK179.out 1).trans rfl; have hcz6_2 : w5.cell? ⟨gb179, 2, none⟩ = some (.int .i64 a0_2) := (blk_cell BK179.out 2).trans rfl; have hcz6_3 : w5.cell? ⟨gb179, 3, none⟩ = some (.bool a0_3) := (blk_cell BK179.out 3).trans rfl; have hfz6_0 := blk_frozen BK179.out 0; have hfz6_1 := blk_frozen BK179.out 1; have hfz6_2 := blk_frozen BK179.out 2; have hfz6_3 := blk_frozen BK179.out 3))
    go_ret
    exact ⟨by first | rfl | (simp [errW_none, errW_some] <;> rfl) | (simp [*, errW_none, errW_some] <;> rfl), by repeat (first | (with_reducible first | exact HB.out | apply below_alloc | apply pw_below_drewN | apply below_drew1 | refine below_set ?_ GE179.out) | exact HB.out)⟩
end Go.Proofs.Ytlcnckbmolefpaa.P
end
