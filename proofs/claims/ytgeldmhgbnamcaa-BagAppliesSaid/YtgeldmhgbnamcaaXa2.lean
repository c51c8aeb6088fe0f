/- Walks and laws of several statements of this seat, joined into one text; no condition. -/
import Derived.Test.YtgeldmhgbnamcaaProg
import Derived.Below
import Derived.Deep.Draws
import Derived.Deep.AppendLies
import Derived.Maps.AppendAt
import Derived.OwnWalk
import Derived.Laws.BytesArg
import Derived.Laws.MakeOwn
import Derived.Laws.OwnMore
import Derived.Deep.OwnRows
import Derived.Tactics
import Derived.Lib.ConvBytes
import Derived.Laws.Slices
import Derived.WalkKit
import Derived.KernelRfl
import Derived.RowKit3
import Derived.Deep.LoopGhost
import Derived.Deep.QuietTactic
import Derived.BigQuiet
import Derived.WideLaws
import Derived.Deep.DeepCutAuto
import Derived.Deep.CutBlock
import Derived.Deep.RegionHeld3
import Derived.Laws.Rows
import Derived.Lib.AppendStr
import Derived.ArgAppend
import Derived.Laws.IdiomCopy
import Derived.OrdersHeld
import Derived.Laws.BitsLemmas
import Derived.RowKit
import Derived.Laws.StructEq
import Derived.Test.YtgeldmhgbnamcaaXa0
import Derived.Test.YtgeldmhgbnamcaaXa1
section
-- Printed by the session's own turn of the print (wip/tools/print2.sh): some callees are proved by hand.
namespace Go.Proofs.Ytgeldmhgbnamcaa.P
open Go.RowKit Go.Proofs.YtgeldmhgbnamcaaW.PrintWords Go.Proofs.YtgeldmhgbnamcaaW.PrintLast Go.Proofs.YtgeldmhgbnamcaaW.PrintMore
attribute [local go_sem] max2_int min2_int max_two min_two max_three min_three max_four min_four   -- for this text's walks alone
set_option linter.unusedVariables false
set_option linter.unusedSimpArgs false
def errW : Option Int → Value
 | none => .nilIface
 | some c => .iface 26 (.int .i64 c)
theorem errW_none : errW none = .nilIface := rfl
theorem errW_some (c : Int) : errW (some c) = .iface 26 (.int .i64 c) := rfl
theorem info3 : (Try.prog.info? 3).map (fun i => (i.zero, i.size, i.bytes)) = some (some (.int .i64 0), 1, 8) := by kernel_rfl
theorem info25 : (Try.prog.info? 25).map (fun i => (i.zero, i.size, i.bytes)) = some (some (.slice none 0 0), 1, 24) := by kernel_rfl
theorem info38 : (Try.prog.info? 38).map (fun i => (i.zero, i.size, i.bytes)) = some (some (.int .u64 0), 1, 8) := by kernel_rfl
theorem info40 : (Try.prog.info? 40).map (fun i => (i.zero, i.size, i.bytes)) = some (some (.agg #[(.int .i64 0), (.int .u64 0), (.int .i64 0)]), 3, 24) := by kernel_rfl
theorem info50 : (Try.prog.info? 50).map (fun i => (i.zero, i.size, i.bytes)) = some (some (.agg #[(.int .i64 0), (.int .u64 0), (.int .i64 0)]), 3, 24) := by kernel_rfl
theorem info67 : (Try.prog.info? 67).map (fun i => (i.zero, i.size, i.bytes)) = some (some (.slice none 0 0), 1, 24) := by kernel_rfl
theorem info90 : (Try.prog.info? 90).map (fun i => (i.zero, i.size, i.bytes)) = some (some (.agg #[(.int .i64 0), (.int .i64 0), (.int .u64 0)]), 3, 24) := by kernel_rfl
theorem info95 : (Try.prog.info? 95).map (fun i => (i.zero, i.size, i.bytes)) = some (some (.agg #[(.int .i64 0), (.int .i64 0), (.int .u64 0)]), 3, 24) := by kernel_rfl
theorem info124 : (Try.prog.info? 124).map (fun i => (i.zero, i.size, i.bytes)) = some (some (.agg #[(.string ⟨#[]⟩), (.int .i64 0)]), 2, 24) := by kernel_rfl
-- the values' own types
/-! #### struct type 40 -/
structure S40 where
 f0 : Int
 f1 : Int
 f2 : Int
def z40 : S40 := ⟨(0 : Int), (0 : Int), (0 : Int)⟩
def k40 : Kd S40 := Kd.iso (Kd.pair (Kd.int .i64) (Kd.pair (Kd.int .u64) (Kd.int .i64))) (fun x : S40 => (x.f0, x.f1, x.f2))
theorem k40_open {w : World} {x : S40} {cs : List Value} (h : k40.K w x cs) : cs = [.int .i64 x.f0, .int .u64 x.f1, .int .i64 x.f2] := by
 obtain ⟨_, _, rfl, rfl, ⟨_, _, rfl, rfl, rfl⟩⟩ := h
 exact rfl
theorem k40_openM {w : World} {base : Nat} {ok : Nat → Prop} {x : S40} {cs : List Value} (h : k40.M w base ok x cs) : cs = [.int .i64 x.f0, .int .u64 x.f1, .int .i64 x.f2] := by
 obtain ⟨_, _, rfl, rfl, ⟨_, _, rfl, rfl, rfl⟩⟩ := h
 exact rfl
theorem k40_mk (w : World) (x : S40)  : k40.K w x [.int .i64 x.f0, .int .u64 x.f1, .int .i64 x.f2] := ⟨[.int .i64 x.f0], [.int .u64 x.f1, .int .i64 x.f2], rfl, rfl, ⟨[.int .u64 x.f1], [.int .i64 x.f2], rfl, rfl, rfl⟩⟩
theorem k40_mkM (w : World) (base : Nat) (ok : Nat → Prop) (x : S40)  : k40.M w base ok x [.int .i64 x.f0, .int .u64 x.f1, .int .i64 x.f2] := ⟨[.int .i64 x.f0], [.int .u64 x.f1, .int .i64 x.f2], rfl, rfl, ⟨[.int .u64 x.f1], [.int .i64 x.f2], rfl, rfl, rfl⟩⟩
theorem k40_mkF (W : World) (ok : Nat → Prop) (x : S40) : Kd.FK k40 W ok x [.int .i64 x.f0, .int .u64 x.f1, .int .i64 x.f2] := fun W2 _ => k40_mk W2 x
def rd_T40 (xs : List S40) (i : Int) : S40 := xs.getD i.toNat z40
theorem at_T40 {w : World} {A : Option Addr} {n : Nat} {xs : List S40} (h : Kd.C k40 w A n xs) (i : Int) (h0 : 0 ≤ i) (h1 : i < n) : ∃ ad , A = some ad ∧ w.cell? (ad.add (i.toNat * 3)) = some (.int .i64 (rd_T40 xs i).f0) ∧ w.cell? ⟨(ad.add (i.toNat * 3)).block, (ad.add (i.toNat * 3)).off + 1, none⟩ = some (.int .u64 (rd_T40 xs i).f1) ∧ w.cell? ⟨(ad.add (i.toNat * 3)).block, (ad.add (i.toNat * 3)).off + 2, none⟩ = some (.int .i64 (rd_T40 xs i).f2) := by
 obtain ⟨ad, c, e, _, hK, hc0⟩ := Kd.C_get h z40 i h0 h1
 have hc : ∀ j u, c[j]? = some u → w.cell? (ad.add (i.toNat * 3 + j)) = some u := hc0
 obtain rfl := k40_open hK
 exact ⟨ad, e, hc 0 _ rfl, by rw [← add_field _ _ 1 (by omega)]; exact hc 1 _ rfl, by rw [← add_field _ _ 2 (by omega)]; exact hc 2 _ rfl⟩
/-! #### struct type 50 -/
structure S50 where
 f0 : Int
 f1 : Int
 f2 : Int
def z50 : S50 := ⟨(0 : Int), (0 : Int), (0 : Int)⟩
def k50 : Kd S50 := Kd.iso (Kd.pair (Kd.int .i64) (Kd.pair (Kd.int .u64) (Kd.int .i64))) (fun x : S50 => (x.f0, x.f1, x.f2))
theorem k50_open {w : World} {x : S50} {cs : List Value} (h : k50.K w x cs) : cs = [.int .i64 x.f0, .int .u64 x.f1, .int .i64 x.f2] := by
 obtain ⟨_, _, rfl, rfl, ⟨_, _, rfl, rfl, rfl⟩⟩ := h
 exact rfl
theorem k50_openM {w : World} {base : Nat} {ok : Nat → Prop} {x : S50} {cs : List Value} (h : k50.M w base ok x cs) : cs = [.int .i64 x.f0, .int .u64 x.f1, .int .i64 x.f2] := by
 obtain ⟨_, _, rfl, rfl, ⟨_, _, rfl, rfl, rfl⟩⟩ := h
 exact rfl
theorem k50_mk (w : World) (x : S50)  : k50.K w x [.int .i64 x.f0, .int .u64 x.f1, .int .i64 x.f2] := ⟨[.int .i64 x.f0], [.int .u64 x.f1, .int .i64 x.f2], rfl, rfl, ⟨[.int .u64 x.f1], [.int .i64 x.f2], rfl, rfl, rfl⟩⟩
theorem k50_mkM (w : World) (base : Nat) (ok : Nat → Prop) (x : S50)  : k50.M w base ok x [.int .i64 x.f0, .int .u64 x.f1, .int .i64 x.f2] := ⟨[.int .i64 x.f0], [.int .u64 x.f1, .int .i64 x.f2], rfl, rfl, ⟨[.int .u64 x.f1], [.int .i64 x.f2], rfl, rfl, rfl⟩⟩
theorem k50_mkF (W : World) (ok : Nat → Prop) (x : S50) : Kd.FK k50 W ok x [.int .i64 x.f0, .int .u64 x.f1, .int .i64 x.f2] := fun W2 _ => k50_mk W2 x
def rd_T50 (xs : List S50) (i : Int) : S50 := xs.getD i.toNat z50
theorem at_T50 {w : World} {A : Option Addr} {n : Nat} {xs : List S50} (h : Kd.C k50 w A n xs) (i : Int) (h0 : 0 ≤ i) (h1 : i < n) : ∃ ad , A = some ad ∧ w.cell? (ad.add (i.toNat * 3)) = some (.int .i64 (rd_T50 xs i).f0) ∧ w.cell? ⟨(ad.add (i.toNat * 3)).block, (ad.add (i.toNat * 3)).off + 1, none⟩ = some (.int .u64 (rd_T50 xs i).f1) ∧ w.cell? ⟨(ad.add (i.toNat * 3)).block, (ad.add (i.toNat * 3)).off + 2, none⟩ = some (.int .i64 (rd_T50 xs i).f2) := by
 obtain ⟨ad, c, e, _, hK, hc0⟩ := Kd.C_get h z50 i h0 h1
 have hc : ∀ j u, c[j]? = some u → w.cell? (ad.add (i.toNat * 3 + j)) = some u := hc0
 obtain rfl := k50_open hK
 exact ⟨ad, e, hc 0 _ rfl, by rw [← add_field _ _ 1 (by omega)]; exact hc 1 _ rfl, by rw [← add_field _ _ 2 (by omega)]; exact hc 2 _ rfl⟩
def rd_L4 (xs : List (List S50)) (i : Int) : (List S50) := xs.getD i.toNat ([] : List S50)
theorem at_L4 {w : World} {A : Option Addr} {n : Nat} {xs : List (List S50)} (h : Kd.C (Kd.slice 50 k50) w A n xs) (i : Int) (h0 : 0 ≤ i) (h1 : i < n) : ∃ ad A0 c0, A = some ad ∧ w.cell? (ad.add i.toNat) = some (.slice A0 (rd_L4 xs i).length c0) ∧ (rd_L4 xs i).length ≤ c0 ∧ k50.C w A0 (rd_L4 xs i).length (rd_L4 xs i) := by
 obtain ⟨ad, c, e, _, hK, hc0⟩ := Kd.C_get h ([] : List S50) i h0 h1
 have hc : ∀ j u, c[j]? = some u → w.cell? (ad.add (i.toNat * 1 + j)) = some u := hc0
 obtain ⟨A0, c0, rfl, l0, g0⟩ := hK
 exact ⟨ad, A0, c0, e, by have hq := hc 0 _ rfl; rwa [Nat.mul_one, Nat.add_zero] at hq, l0, g0⟩
/-! #### struct type 90 -/
structure S90 where
 f0 : Int
 f1 : Int
 f2 : Int
def z90 : S90 := ⟨(0 : Int), (0 : Int), (0 : Int)⟩
def k90 : Kd S90 := Kd.iso (Kd.pair (Kd.int .i64) (Kd.pair (Kd.int .i64) (Kd.int .u64))) (fun x : S90 => (x.f0, x.f1, x.f2))
theorem k90_open {w : World} {x : S90} {cs : List Value} (h : k90.K w x cs) : cs = [.int .i64 x.f0, .int .i64 x.f1, .int .u64 x.f2] := by
 obtain ⟨_, _, rfl, rfl, ⟨_, _, rfl, rfl, rfl⟩⟩ := h
 exact rfl
theorem k90_openM {w : World} {base : Nat} {ok : Nat → Prop} {x : S90} {cs : List Value} (h : k90.M w base ok x cs) : cs = [.int .i64 x.f0, .int .i64 x.f1, .int .u64 x.f2] := by
 obtain ⟨_, _, rfl, rfl, ⟨_, _, rfl, rfl, rfl⟩⟩ := h
 exact rfl
theorem k90_mk (w : World) (x : S90)  : k90.K w x [.int .i64 x.f0, .int .i64 x.f1, .int .u64 x.f2] := ⟨[.int .i64 x.f0], [.int .i64 x.f1, .int .u64 x.f2], rfl, rfl, ⟨[.int .i64 x.f1], [.int .u64 x.f2], rfl, rfl, rfl⟩⟩
theorem k90_mkM (w : World) (base : Nat) (ok : Nat → Prop) (x : S90)  : k90.M w base ok x [.int .i64 x.f0, .int .i64 x.f1, .int .u64 x.f2] := ⟨[.int .i64 x.f0], [.int .i64 x.f1, .int .u64 x.f2], rfl, rfl, ⟨[.int .i64 x.f1], [.int .u64 x.f2], rfl, rfl, rfl⟩⟩
theorem k90_mkF (W : World) (ok : Nat → Prop) (x : S90) : Kd.FK k90 W ok x [.int .i64 x.f0, .int .i64 x.f1, .int .u64 x.f2] := fun W2 _ => k90_mk W2 x
def rd_T90 (xs : List S90) (i : Int) : S90 := xs.getD i.toNat z90
theorem at_T90 {w : World} {A : Option Addr} {n : Nat} {xs : List S90} (h : Kd.C k90 w A n xs) (i : Int) (h0 : 0 ≤ i) (h1 : i < n) : ∃ ad , A = some ad ∧ w.cell? (ad.add (i.toNat * 3)) = some (.int .i64 (rd_T90 xs i).f0) ∧ w.cell? ⟨(ad.add (i.toNat * 3)).block, (ad.add (i.toNat * 3)).off + 1, none⟩ = some (.int .i64 (rd_T90 xs i).f1) ∧ w.cell? ⟨(ad.add (i.toNat * 3)).block, (ad.add (i.toNat * 3)).off + 2, none⟩ = some (.int .u64 (rd_T90 xs i).f2) := by
 obtain ⟨ad, c, e, _, hK, hc0⟩ := Kd.C_get h z90 i h0 h1
 have hc : ∀ j u, c[j]? = some u → w.cell? (ad.add (i.toNat * 3 + j)) = some u := hc0
 obtain rfl := k90_open hK
 exact ⟨ad, e, hc 0 _ rfl, by rw [← add_field _ _ 1 (by omega)]; exact hc 1 _ rfl, by rw [← add_field _ _ 2 (by omega)]; exact hc 2 _ rfl⟩
def rd_L7 (xs : List (List Int)) (i : Int) : (List Int) := xs.getD i.toNat ([] : List Int)
theorem at_L7 {w : World} {A : Option Addr} {n : Nat} {xs : List (List Int)} (h : Kd.C (Kd.slice 38 (Kd.int .u64)) w A n xs) (i : Int) (h0 : 0 ≤ i) (h1 : i < n) : ∃ ad A0 c0, A = some ad ∧ w.cell? (ad.add i.toNat) = some (.slice A0 (rd_L7 xs i).length c0) ∧ (rd_L7 xs i).length ≤ c0 ∧ (Kd.int .u64).C w A0 (rd_L7 xs i).length (rd_L7 xs i) := by
 obtain ⟨ad, c, e, _, hK, hc0⟩ := Kd.C_get h ([] : List Int) i h0 h1
 have hc : ∀ j u, c[j]? = some u → w.cell? (ad.add (i.toNat * 1 + j)) = some u := hc0
 obtain ⟨A0, c0, rfl, l0, g0⟩ := hK
 exact ⟨ad, A0, c0, e, by have hq := hc 0 _ rfl; rwa [Nat.mul_one, Nat.add_zero] at hq, l0, g0⟩
/-! #### struct type 95 -/
structure S95 where
 f0 : Int
 f1 : Int
 f2 : Int
def z95 : S95 := ⟨(0 : Int), (0 : Int), (0 : Int)⟩
def k95 : Kd S95 := Kd.iso (Kd.pair (Kd.int .i64) (Kd.pair (Kd.int .i64) (Kd.int .u64))) (fun x : S95 => (x.f0, x.f1, x.f2))
theorem k95_open {w : World} {x : S95} {cs : List Value} (h : k95.K w x cs) : cs = [.int .i64 x.f0, .int .i64 x.f1, .int .u64 x.f2] := by
 obtain ⟨_, _, rfl, rfl, ⟨_, _, rfl, rfl, rfl⟩⟩ := h
 exact rfl
theorem k95_openM {w : World} {base : Nat} {ok : Nat → Prop} {x : S95} {cs : List Value} (h : k95.M w base ok x cs) : cs = [.int .i64 x.f0, .int .i64 x.f1, .int .u64 x.f2] := by
 obtain ⟨_, _, rfl, rfl, ⟨_, _, rfl, rfl, rfl⟩⟩ := h
 exact rfl
theorem k95_mk (w : World) (x : S95)  : k95.K w x [.int .i64 x.f0, .int .i64 x.f1, .int .u64 x.f2] := ⟨[.int .i64 x.f0], [.int .i64 x.f1, .int .u64 x.f2], rfl, rfl, ⟨[.int .i64 x.f1], [.int .u64 x.f2], rfl, rfl, rfl⟩⟩
theorem k95_mkM (w : World) (base : Nat) (ok : Nat → Prop) (x : S95)  : k95.M w base ok x [.int .i64 x.f0, .int .i64 x.f1, .int .u64 x.f2] := ⟨[.int .i64 x.f0], [.int .i64 x.f1, .int .u64 x.f2], rfl, rfl, ⟨[.int .i64 x.f1], [.int .u64 x.f2], rfl, rfl, rfl⟩⟩
theorem k95_mkF (W : World) (ok : Nat → Prop) (x : S95) : Kd.FK k95 W ok x [.int .i64 x.f0, .int .i64 x.f1, .int .u64 x.f2] := fun W2 _ => k95_mk W2 x
def rd_T95 (xs : List S95) (i : Int) : S95 := xs.getD i.toNat z95
theorem at_T95 {w : World} {A : Option Addr} {n : Nat} {xs : List S95} (h : Kd.C k95 w A n xs) (i : Int) (h0 : 0 ≤ i) (h1 : i < n) : ∃ ad , A = some ad ∧ w.cell? (ad.add (i.toNat * 3)) = some (.int .i64 (rd_T95 xs i).f0) ∧ w.cell? ⟨(ad.add (i.toNat * 3)).block, (ad.add (i.toNat * 3)).off + 1, none⟩ = some (.int .i64 (rd_T95 xs i).f1) ∧ w.cell? ⟨(ad.add (i.toNat * 3)).block, (ad.add (i.toNat * 3)).off + 2, none⟩ = some (.int .u64 (rd_T95 xs i).f2) := by
 obtain ⟨ad, c, e, _, hK, hc0⟩ := Kd.C_get h z95 i h0 h1
 have hc : ∀ j u, c[j]? = some u → w.cell? (ad.add (i.toNat * 3 + j)) = some u := hc0
 obtain rfl := k95_open hK
 exact ⟨ad, e, hc 0 _ rfl, by rw [← add_field _ _ 1 (by omega)]; exact hc 1 _ rfl, by rw [← add_field _ _ 2 (by omega)]; exact hc 2 _ rfl⟩
def rd_L9 (xs : List (List S95)) (i : Int) : (List S95) := xs.getD i.toNat ([] : List S95)
theorem at_L9 {w : World} {A : Option Addr} {n : Nat} {xs : List (List S95)} (h : Kd.C (Kd.slice 95 k95) w A n xs) (i : Int) (h0 : 0 ≤ i) (h1 : i < n) : ∃ ad A0 c0, A = some ad ∧ w.cell? (ad.add i.toNat) = some (.slice A0 (rd_L9 xs i).length c0) ∧ (rd_L9 xs i).length ≤ c0 ∧ k95.C w A0 (rd_L9 xs i).length (rd_L9 xs i) := by
 obtain ⟨ad, c, e, _, hK, hc0⟩ := Kd.C_get h ([] : List S95) i h0 h1
 have hc : ∀ j u, c[j]? = some u → w.cell? (ad.add (i.toNat * 1 + j)) = some u := hc0
 obtain ⟨A0, c0, rfl, l0, g0⟩ := hK
 exact ⟨ad, A0, c0, e, by have hq := hc 0 _ rfl; rwa [Nat.mul_one, Nat.add_zero] at hq, l0, g0⟩
def rd_L10 (xs : List (List Int)) (i : Int) : (List Int) := xs.getD i.toNat ([] : List Int)
theorem at_L10 {w : World} {A : Option Addr} {n : Nat} {xs : List (List Int)} (h : Kd.C (Kd.slice 3 (Kd.int .i64)) w A n xs) (i : Int) (h0 : 0 ≤ i) (h1 : i < n) : ∃ ad A0 c0, A = some ad ∧ w.cell? (ad.add i.toNat) = some (.slice A0 (rd_L10 xs i).length c0) ∧ (rd_L10 xs i).length ≤ c0 ∧ (Kd.int .i64).C w A0 (rd_L10 xs i).length (rd_L10 xs i) := by
 obtain ⟨ad, c, e, _, hK, hc0⟩ := Kd.C_get h ([] : List Int) i h0 h1
 have hc : ∀ j u, c[j]? = some u → w.cell? (ad.add (i.toNat * 1 + j)) = some u := hc0
 obtain ⟨A0, c0, rfl, l0, g0⟩ := hK
 exact ⟨ad, A0, c0, e, by have hq := hc 0 _ rfl; rwa [Nat.mul_one, Nat.add_zero] at hq, l0, g0⟩
/-! #### struct type 64 -/
structure S64 where
 f0 : Int
 f1 : (List S95)
 f2 : (List Int)
def z64 : S64 := ⟨(0 : Int), ([] : List S95), ([] : List Int)⟩
def k64 : Kd S64 := Kd.iso (Kd.pair (Kd.int .i64) (Kd.pair (Kd.slice 95 k95) (Kd.slice 3 (Kd.int .i64)))) (fun x : S64 => (x.f0, x.f1, x.f2))
theorem k64_open {w : World} {x : S64} {cs : List Value} (h : k64.K w x cs) : ∃ A1 c1 A2 c2, cs = [.int .i64 x.f0, .slice A1 x.f1.length c1, .slice A2 x.f2.length c2] ∧ x.f1.length ≤ c1 ∧ k95.C w A1 x.f1.length x.f1 ∧ x.f2.length ≤ c2 ∧ (Kd.int .i64).C w A2 x.f2.length x.f2 := by
 obtain ⟨_, _, rfl, rfl, ⟨_, _, rfl, ⟨A1, c1, rfl, l1, g1⟩, ⟨A2, c2, rfl, l2, g2⟩⟩⟩ := h
 exact ⟨A1, c1, A2, c2, rfl, l1, g1, l2, g2⟩
theorem k64_openM {w : World} {base : Nat} {ok : Nat → Prop} {x : S64} {cs : List Value} (h : k64.M w base ok x cs) : ∃ v1 v2, cs = [.int .i64 x.f0, v1, v2] ∧ k95.R 95 w base ok v1 x.f1 ∧ (Kd.int .i64).R 3 w base ok v2 x.f2 := by
 obtain ⟨_, _, rfl, rfl, ⟨_, _, rfl, ⟨v1, rfl, g1⟩, ⟨v2, rfl, g2⟩⟩⟩ := h
 exact ⟨v1, v2, rfl, g1, g2⟩
theorem k64_mk (w : World) (x : S64) {A1 : Option Addr} {c1 : Nat} (l1 : x.f1.length ≤ c1) (g1 : k95.C w A1 x.f1.length x.f1) {A2 : Option Addr} {c2 : Nat} (l2 : x.f2.length ≤ c2) (g2 : (Kd.int .i64).C w A2 x.f2.length x.f2) : k64.K w x [.int .i64 x.f0, .slice A1 x.f1.length c1, .slice A2 x.f2.length c2] := ⟨[.int .i64 x.f0], [.slice A1 x.f1.length c1, .slice A2 x.f2.length c2], rfl, rfl, ⟨[.slice A1 x.f1.length c1], [.slice A2 x.f2.length c2], rfl, ⟨A1, c1, rfl, l1, g1⟩, ⟨A2, c2, rfl, l2, g2⟩⟩⟩
theorem k64_mkM (w : World) (base : Nat) (ok : Nat → Prop) (x : S64) {v1 : Value} (g1 : k95.R 95 w base ok v1 x.f1) {v2 : Value} (g2 : (Kd.int .i64).R 3 w base ok v2 x.f2) : k64.M w base ok x [.int .i64 x.f0, v1, v2] := ⟨[.int .i64 x.f0], [v1, v2], rfl, rfl, ⟨[v1], [v2], rfl, ⟨v1, rfl, g1⟩, ⟨v2, rfl, g2⟩⟩⟩
theorem k64_openF {W : World} {ok : Nat → Prop} {x : S64} {cs : List Value} (h : Kd.FK k64 W ok x cs) : ∃ A1 c1 A2 c2, cs = [.int .i64 x.f0, .slice A1 x.f1.length c1, .slice A2 x.f2.length c2] ∧ x.f1.length ≤ c1 ∧ Kd.F k95 W ok A1 x.f1.length x.f1 ∧ x.f2.length ≤ c2 ∧ Kd.F (Kd.int .i64) W ok A2 x.f2.length x.f2 := by
 obtain ⟨A1, c1, A2, c2, rfl, l1, _, l2, _⟩ := k64_open (Kd.FK_now h)
 exact ⟨A1, c1, A2, c2, rfl, l1, (fun W' hW => by obtain ⟨A1_, c1_, A2_, c2_, he, l1_, g1_, l2_, g2_⟩ := k64_open (h W' hW); injection (Option.some.inj (show some (Value.slice A1 x.f1.length c1) = some (Value.slice A1_ x.f1.length c1_) from congrArg (fun l => l[1]?) he)) with ha_ _ _; rw [ha_]; exact g1_), l2, (fun W' hW => by obtain ⟨A1_, c1_, A2_, c2_, he, l1_, g1_, l2_, g2_⟩ := k64_open (h W' hW); injection (Option.some.inj (show some (Value.slice A2 x.f2.length c2) = some (Value.slice A2_ x.f2.length c2_) from congrArg (fun l => l[2]?) he)) with ha_ _ _; rw [ha_]; exact g2_)⟩
theorem k64_mkF (W : World) (ok : Nat → Prop) (x : S64) {A1 : Option Addr} {c1 : Nat} (l1 : x.f1.length ≤ c1) (g1 : Kd.F k95 W ok A1 x.f1.length x.f1) {A2 : Option Addr} {c2 : Nat} (l2 : x.f2.length ≤ c2) (g2 : Kd.F (Kd.int .i64) W ok A2 x.f2.length x.f2) : Kd.FK k64 W ok x [.int .i64 x.f0, .slice A1 x.f1.length c1, .slice A2 x.f2.length c2] := fun W2 hW => k64_mk W2 x l1 (g1 W2 hW) l2 (g2 W2 hW)
def rd_T64 (xs : List S64) (i : Int) : S64 := xs.getD i.toNat z64
theorem at_T64 {w : World} {A : Option Addr} {n : Nat} {xs : List S64} (h : Kd.C k64 w A n xs) (i : Int) (h0 : 0 ≤ i) (h1 : i < n) : ∃ ad A1 c1 A2 c2, A = some ad ∧ w.cell? (ad.add (i.toNat * 3)) = some (.int .i64 (rd_T64 xs i).f0) ∧ w.cell? ⟨(ad.add (i.toNat * 3)).block, (ad.add (i.toNat * 3)).off + 1, none⟩ = some (.slice A1 (rd_T64 xs i).f1.length c1) ∧ w.cell? ⟨(ad.add (i.toNat * 3)).block, (ad.add (i.toNat * 3)).off + 2, none⟩ = some (.slice A2 (rd_T64 xs i).f2.length c2) ∧ (rd_T64 xs i).f1.length ≤ c1 ∧ k95.C w A1 (rd_T64 xs i).f1.length (rd_T64 xs i).f1 ∧ (rd_T64 xs i).f2.length ≤ c2 ∧ (Kd.int .i64).C w A2 (rd_T64 xs i).f2.length (rd_T64 xs i).f2 := by
 obtain ⟨ad, c, e, _, hK, hc0⟩ := Kd.C_get h z64 i h0 h1
 have hc : ∀ j u, c[j]? = some u → w.cell? (ad.add (i.toNat * 3 + j)) = some u := hc0
 obtain ⟨A1, c1, A2, c2, rfl, l1, g1, l2, g2⟩ := k64_open hK
 exact ⟨ad, A1, c1, A2, c2, e, hc 0 _ rfl, by rw [← add_field _ _ 1 (by omega)]; exact hc 1 _ rfl, by rw [← add_field _ _ 2 (by omega)]; exact hc 2 _ rfl, l1, g1, l2, g2⟩
def rd_L12 (xs : List (List (List Int))) (i : Int) : (List (List Int)) := xs.getD i.toNat ([] : List (List Int))
theorem at_L12 {w : World} {A : Option Addr} {n : Nat} {xs : List (List (List Int))} (h : Kd.C (Kd.slice 67 (Kd.slice 38 (Kd.int .u64))) w A n xs) (i : Int) (h0 : 0 ≤ i) (h1 : i < n) : ∃ ad A0 c0, A = some ad ∧ w.cell? (ad.add i.toNat) = some (.slice A0 (rd_L12 xs i).length c0) ∧ (rd_L12 xs i).length ≤ c0 ∧ (Kd.slice 38 (Kd.int .u64)).C w A0 (rd_L12 xs i).length (rd_L12 xs i) := by
 obtain ⟨ad, c, e, _, hK, hc0⟩ := Kd.C_get h ([] : List (List Int)) i h0 h1
 have hc : ∀ j u, c[j]? = some u → w.cell? (ad.add (i.toNat * 1 + j)) = some u := hc0
 obtain ⟨A0, c0, rfl, l0, g0⟩ := hK
 exact ⟨ad, A0, c0, e, by have hq := hc 0 _ rfl; rwa [Nat.mul_one, Nat.add_zero] at hq, l0, g0⟩
/-! #### struct type 124 -/
structure S124 where
 f0 : ByteArray
 f1 : Int
def z124 : S124 := ⟨(⟨#[]⟩ : ByteArray), (0 : Int)⟩
def k124 : Kd S124 := Kd.iso (Kd.pair Kd.string (Kd.int .i64)) (fun x : S124 => (x.f0, x.f1))
theorem k124_open {w : World} {x : S124} {cs : List Value} (h : k124.K w x cs) : cs = [.string x.f0, .int .i64 x.f1] := by
 obtain ⟨_, _, rfl, rfl, rfl⟩ := h
 exact rfl
theorem k124_openM {w : World} {base : Nat} {ok : Nat → Prop} {x : S124} {cs : List Value} (h : k124.M w base ok x cs) : cs = [.string x.f0, .int .i64 x.f1] := by
 obtain ⟨_, _, rfl, rfl, rfl⟩ := h
 exact rfl
theorem k124_mk (w : World) (x : S124)  : k124.K w x [.string x.f0, .int .i64 x.f1] := ⟨[.string x.f0], [.int .i64 x.f1], rfl, rfl, rfl⟩
theorem k124_mkM (w : World) (base : Nat) (ok : Nat → Prop) (x : S124)  : k124.M w base ok x [.string x.f0, .int .i64 x.f1] := ⟨[.string x.f0], [.int .i64 x.f1], rfl, rfl, rfl⟩
theorem k124_mkF (W : World) (ok : Nat → Prop) (x : S124) : Kd.FK k124 W ok x [.string x.f0, .int .i64 x.f1] := fun W2 _ => k124_mk W2 x
def rd_T124 (xs : List S124) (i : Int) : S124 := xs.getD i.toNat z124
theorem at_T124 {w : World} {A : Option Addr} {n : Nat} {xs : List S124} (h : Kd.C k124 w A n xs) (i : Int) (h0 : 0 ≤ i) (h1 : i < n) : ∃ ad , A = some ad ∧ w.cell? (ad.add (i.toNat * 2)) = some (.string (rd_T124 xs i).f0) ∧ w.cell? ⟨(ad.add (i.toNat * 2)).block, (ad.add (i.toNat * 2)).off + 1, none⟩ = some (.int .i64 (rd_T124 xs i).f1) := by
 obtain ⟨ad, c, e, _, hK, hc0⟩ := Kd.C_get h z124 i h0 h1
 have hc : ∀ j u, c[j]? = some u → w.cell? (ad.add (i.toNat * 2 + j)) = some u := hc0
 obtain rfl := k124_open hK
 exact ⟨ad, e, hc 0 _ rfl, by rw [← add_field _ _ 1 (by omega)]; exact hc 1 _ rfl⟩
end Go.Proofs.Ytgeldmhgbnamcaa.P
end
section
-- Printed by the session's own turn of the print (wip/tools/print2.sh): some callees are proved by hand.
namespace Go.Proofs.Ytgeldmhgbnamcaa.P
open Go.RowKit Go.Proofs.YtgeldmhgbnamcaaW.PrintWords Go.Proofs.YtgeldmhgbnamcaaW.PrintLast Go.Proofs.YtgeldmhgbnamcaaW.PrintMore
attribute [local go_sem] max2_int min2_int max_two min_two max_three min_three max_four min_four   -- for this text's walks alone
set_option linter.unusedVariables false
set_option linter.unusedSimpArgs false
/-! ### marchlandlaw03_To: function 14 -/
def marchlandlaw03_To.l0 : Nat → List (S40) → List (S50) → Int → Option ((List (S50)))
 | 0, _, _, _ => none
 | k + 1, x0, x3, x4 => if x4 < (x0.length : Int) then (if 0 ≤ x4 then (if x3.length < 5864062014805 then (marchlandlaw03_To.l0 k x0 (x3 ++ [(⟨(rd_T40 x0 x4).f0, (rd_T40 x0 x4).f1, (rd_T40 x0 x4).f2⟩ : S50)]) (wrap64 (x4 + 1))) else (none)) else (none)) else (some x3)
def marchlandlaw03_To.f (k : Nat) (l0 : List (S40)) : Option ((List (S50))) := marchlandlaw03_To.l0 k l0 ([] : List (S50)) 0
def marchlandlaw03_To.T5 : Bool × List (List Nat × List Nat) := (true, [([], []), ([], []), ([], []), ([1, 2], [1, 2]), ([3], [3]), ([4], [4]), ([], []), ([], []), ([6, 7], [6, 7]), ([8], [8]), ([9], [9]), ([], []), ([], []), ([11, 12], [11, 12]), ([13], [13]), ([14], [14]), ([5, 10, 15], [5, 10, 15]), ([16], [16]), ([0, 17], [0, 17]), ([18, 18, 0, 1, 2, 3, 4, 5, 6, 7, 8, 9, 10, 11, 12, 13, 14, 15, 16, 17, 18], [0, 18])])
def marchlandlaw03_To.B5 : List Nat := [0, 0, 0, 6, 14, 30, 0, 0, 192, 448, 960, 0, 0, 6144, 14336, 30720, 65534, 131070, 262143, 524287]
theorem marchlandlaw03_To.tab5 : rtab .any (opsOf Try.f14 5) = marchlandlaw03_To.T5 := by kernel_rfl
theorem marchlandlaw03_To.bits5 : waitsOk marchlandlaw03_To.T5.2 marchlandlaw03_To.B5 = true := by kernel_rfl
set_option maxHeartbeats 8000000 in
set_option maxRecDepth 100000 in
theorem marchlandlaw03_To.calls (k : Nat) (A0 : Option Addr) (c0 : Nat) (l0 : List (S40)) (r : List (S50)) (w : World) (hr0 : Kd.C k40 w A0 l0.length l0) (hc0 : l0.length ≤ c0) (h : marchlandlaw03_To.f k l0 = some r) :
  Calls Try.prog 14 #[.slice A0 l0.length c0] w fun e w' => ∃ v0_ : Value, e = .returned (v0_) ∧ Kd.R k50 50 w' w.heap.size (fun _ => True) v0_ r ∧ Below w.heap.size w w' := by
 have hu50 := Try.underlying50
 have HR0 := Aside0.mk hr0
 have HC0 := Aside0.mk hc0
 clear hr0 hc0
 have HB := Aside0.mk (Below.refl w.heap.size w)
 have H : (marchlandlaw03_To.l0 k l0 ([] : List (S50)) 0) = some r := h
 clear h
 have H' := Aside0.mk H
 clear H
 go_enter Try.func14, Try.ntmps14
 go_wp2
 go_loopg [3, 4] k (fun kq v3 v4 w' => ∃ (x3_1 : List (S50)) (x4_1 : Int), v4 = .int .i64 x4_1 ∧ Aside0 (marchlandlaw03_To.l0 kq l0 x3_1 x4_1 = some r) ∧ Aside0 (kq ≤ k) ∧ Aside0 (Kd.R k50 50 w' w.heap.size (fun _ => True) v3 x3_1) ∧ Aside0 (Below w.heap.size w w'))
 case atStart => exact ⟨(([] : List (S50))), (0), (by first | rfl | (simp; done) | (simp [*]; done)), H', ⟨Nat.le_refl _⟩, ⟨by first | exact Kd.R_nil _ _ _ _ _ | exact Kd.N_nil _ _ _ _ _ | exact Kd.V_nil _ _ _ _ _ | exact Kd.Q_nil _ _ _ _ _ | exact Kd.S_nil _ _ _ _ _⟩, ⟨by repeat (first | (with_reducible first | exact HB.out | apply below_alloc | apply pw_below_drewN | apply below_drew1) | exact HB.out)⟩⟩
 case round =>
  clear H'
  (try clear c1)
  obtain ⟨x3_1, x4_1, rfl, HA, HK1, HO_3, HB⟩ := hrel
  cases gk with
  | zero => exact absurd HA.out (by simp [marchlandlaw03_To.l0])
  | succ k1 =>
   have H := HA.out
   clear HA
   simp only [marchlandlaw03_To.l0] at H
   by_cases c2 : x4_1 < (l0.length : Int)
   ·rw [if_pos c2] at H
    have c2b0 : decide (x4_1 < (l0.length : Int)) = true := decide_eq_true c2
    clear c2
    by_cases c3 : 0 ≤ x4_1
    ·rw [if_pos c3] at H
     have c3b0 : decide (0 ≤ x4_1) = true := decide_eq_true c3
     clear c3
     by_cases c4 : x3_1.length < 5864062014805
     ·rw [if_pos c4] at H
      have LMc4 := Aside0.mk c4
      clear c4
      obtain ⟨y104, hy104⟩ : ∃ y_ : List (S50), y_ = (x3_1 ++ [(⟨(rd_T40 l0 x4_1).f0, (rd_T40 l0 x4_1).f1, (rd_T40 l0 x4_1).f2⟩ : S50)]) := ⟨_, rfl⟩
      replace H : (marchlandlaw03_To.l0 k1 l0 y104 (wrap64 (x4_1 + 1))) = some r := by first | (rw [hy104]; with_reducible exact H) | (have H2_ := (Option.bind_some _ _).symm.trans H; rw [hy104]; with_reducible exact H2_) | (have H2_ := (Option.bind_some _ _).symm.trans H; with_reducible exact H2_) | with_reducible exact H | (rw [hy104]; exact H) | exact H
      have Ny104 := Aside0.mk hy104
      clear hy104
      have H' := Aside0.mk H
      clear H
      try go_wp2
      have n0_ := Aside0.mk (Kd.R_drew HO_3.out)
      have n1_ := Aside0.mk (below_drew1 HB.out)
      clear HO_3
      clear HB
      have HO_3 := n0_
      have HB := n1_
      clear n0_ n1_
      have p101 : 0 ≤ (x4_1 : Int) := of_decide_eq_true (by assumption)
      have q101 : x4_1 < (l0.length : Int) := of_decide_eq_true (by assumption)
      obtain ⟨ad101, e101, hx101_0, hx101_1, hx101_2⟩ := at_T40 HR0.out x4_1 p101 q101
      have hw101_2 := hx101_2
      have hw101_1 := hx101_1
      have hw101_0 := hx101_0
      cases e101
      replace hx101_0 := (HB.out.cell (World.block_lt_of_cell? w _ hx101_0)).trans hx101_0
      replace hx101_1 := (HB.out.cell (World.block_lt_of_cell? w _ hx101_1)).trans hx101_1
      replace hx101_2 := (HB.out.cell (World.block_lt_of_cell? w _ hx101_2)).trans hx101_2
      replace p101 := eq_true p101
      replace q101 := eq_true q101
      have p102 : 0 ≤ (x4_1 : Int) := of_decide_eq_true (by assumption)
      have q102 : x4_1 < (l0.length : Int) := of_decide_eq_true (by assumption)
      obtain ⟨ad102, e102, hx102_0, hx102_1, hx102_2⟩ := at_T40 HR0.out x4_1 p102 q102
      have hw102_2 := hx102_2
      have hw102_1 := hx102_1
      have hw102_0 := hx102_0
      obtain rfl : ad101 = ad102 := (by injection e102)
      replace hx102_0 := (HB.out.cell (World.block_lt_of_cell? w _ hx102_0)).trans hx102_0
      replace hx102_1 := (HB.out.cell (World.block_lt_of_cell? w _ hx102_1)).trans hx102_1
      replace hx102_2 := (HB.out.cell (World.block_lt_of_cell? w _ hx102_2)).trans hx102_2
      replace p102 := eq_true p102
      replace q102 := eq_true q102
      have p103 : 0 ≤ (x4_1 : Int) := of_decide_eq_true (by assumption)
      have q103 : x4_1 < (l0.length : Int) := of_decide_eq_true (by assumption)
      obtain ⟨ad103, e103, hx103_0, hx103_1, hx103_2⟩ := at_T40 HR0.out x4_1 p103 q103
      have hw103_2 := hx103_2
      have hw103_1 := hx103_1
      have hw103_0 := hx103_0
      obtain rfl : ad101 = ad103 := (by injection e103)
      replace hx103_0 := (HB.out.cell (World.block_lt_of_cell? w _ hx103_0)).trans hx103_0
      replace hx103_1 := (HB.out.cell (World.block_lt_of_cell? w _ hx103_1)).trans hx103_1
      replace hx103_2 := (HB.out.cell (World.block_lt_of_cell? w _ hx103_2)).trans hx103_2
      replace p103 := eq_true p103
      replace q103 := eq_true q103
      refine start_ (n := 20) (S := fun w' => w'.cell? (ad101.add ((x4_1).toNat * 3)) = some (.int .i64 ((rd_T40 l0 x4_1).f0)) ∧ w'.cell? ⟨(ad101.add ((x4_1).toNat * 3)).block, (ad101.add ((x4_1).toNat * 3)).off + 1, none⟩ = some (.int .u64 ((rd_T40 l0 x4_1).f1)) ∧ w'.cell? ⟨(ad101.add ((x4_1).toNat * 3)).block, (ad101.add ((x4_1).toNat * 3)).off + 2, none⟩ = some (.int .i64 ((rd_T40 l0 x4_1).f2)) ∧ w'.cell? (ad101.add ((x4_1).toNat * 3)) = some (.int .i64 ((rd_T40 l0 x4_1).f0)) ∧ w'.cell? ⟨(ad101.add ((x4_1).toNat * 3)).block, (ad101.add ((x4_1).toNat * 3)).off + 1, none⟩ = some (.int .u64 ((rd_T40 l0 x4_1).f1)) ∧ w'.cell? ⟨(ad101.add ((x4_1).toNat * 3)).block, (ad101.add ((x4_1).toNat * 3)).off + 2, none⟩ = some (.int .i64 ((rd_T40 l0 x4_1).f2)) ∧ w'.cell? (ad101.add ((x4_1).toNat * 3)) = some (.int .i64 ((rd_T40 l0 x4_1).f0)) ∧ w'.cell? ⟨(ad101.add ((x4_1).toNat * 3)).block, (ad101.add ((x4_1).toNat * 3)).off + 1, none⟩ = some (.int .u64 ((rd_T40 l0 x4_1).f1)) ∧ w'.cell? ⟨(ad101.add ((x4_1).toNat * 3)).block, (ad101.add ((x4_1).toNat * 3)).off + 2, none⟩ = some (.int .i64 ((rd_T40 l0 x4_1).f2))) (ds := []) (mk_ 0 20) (by kernel_rfl) rfl rfl ⟨((HB.out.cell (World.block_lt_of_cell? w _ hw101_0)).trans hw101_0), ((HB.out.cell (World.block_lt_of_cell? w _ hw101_1)).trans hw101_1), ((HB.out.cell (World.block_lt_of_cell? w _ hw101_2)).trans hw101_2), ((HB.out.cell (World.block_lt_of_cell? w _ hw102_0)).trans hw102_0), ((HB.out.cell (World.block_lt_of_cell? w _ hw102_1)).trans hw102_1), ((HB.out.cell (World.block_lt_of_cell? w _ hw102_2)).trans hw102_2), ((HB.out.cell (World.block_lt_of_cell? w _ hw103_0)).trans hw103_0), ((HB.out.cell (World.block_lt_of_cell? w _ hw103_1)).trans hw103_1), ((HB.out.cell (World.block_lt_of_cell? w _ hw103_2)).trans hw103_2)⟩ (fun hHeld => ?_); refine with_tabW marchlandlaw03_To.tab5 marchlandlaw03_To.bits5 (fun HT_ HW_ => ?_)
      generalize wr.drew = w5 at HO_3 HB hx101_0 hx101_1 hx101_2 hx102_0 hx102_1 hx102_2 hx103_0 hx103_1 hx103_2 hHeld ⊢
      refine pv_ 0 11 (mk_ 1 19) HT_ ?_
      refine pv_ 1 12 (mk_ 2 18) HT_ ?_
      refine pv_ 2 13 (mk_ 3 17) HT_ ?_
      refine pv_ 3 14 (mk_ 4 16) HT_ ?_
      refine pv_ 4 15 (mk_ 5 15) HT_ ?_
      refine pv_ 6 17 #[true, true, true, true, true, false, true, false, false, false, false, false, false, false, false, false, false, false, false, false] HT_ ?_
      refine pv_ 7 18 #[true, true, true, true, true, false, true, true, false, false, false, false, false, false, false, false, false, false, false, false] HT_ ?_
      refine pv_ 8 19 #[true, true, true, true, true, false, true, true, true, false, false, false, false, false, false, false, false, false, false, false] HT_ ?_
      refine pv_ 9 20 #[true, true, true, true, true, false, true, true, true, true, false, false, false, false, false, false, false, false, false, false] HT_ ?_
      refine pv_ 11 22 #[true, true, true, true, true, false, true, true, true, true, false, true, false, false, false, false, false, false, false, false] HT_ ?_
      refine pv_ 12 23 #[true, true, true, true, true, false, true, true, true, true, false, true, true, false, false, false, false, false, false, false] HT_ ?_
      refine pv_ 13 24 #[true, true, true, true, true, false, true, true, true, true, false, true, true, true, false, false, false, false, false, false] HT_ ?_
      refine pv_ 14 25 #[true, true, true, true, true, false, true, true, true, true, false, true, true, true, true, false, false, false, false, false] HT_ ?_
      refine tv_ 5 16 #[true, true, true, true, true, true, true, true, true, true, false, true, true, true, true, false, false, false, false, false] HT_ HW_ hHeld (hy := by rintro w' ⟨s0, s1, s2, s3, s4, s5, s6, s7, s8⟩; go_simp; with_reducible rfl) (h := ?_)
      refine tv_ 10 21 (mk_ 15 5) HT_ HW_ hHeld (hy := by rintro w' ⟨s0, s1, s2, s3, s4, s5, s6, s7, s8⟩; go_simp; with_reducible rfl) (h := ?_)
      refine tv_ 15 26 (mk_ 16 4) HT_ HW_ hHeld (hy := by rintro w' ⟨s0, s1, s2, s3, s4, s5, s6, s7, s8⟩; go_simp; with_reducible rfl) (h := ?_)
      refine pv_ 16 27 (mk_ 17 3) HT_ ?_
      refine one_ (i := 17) (N := some 28) (mk_ 18 2) rfl rfl (one_of HT_.out (by kernel_rfl)) (by decide) (fun K hK => ?_)
      refine value_ (w1 := ?_) (v := ?_) (by rfl) rfl ?_ ?_
      rotate_left 2
      ·go_simp
       constructor
       ·rfl
       ·rfl
      refine hK.out _ _ ⟨(World.cell?_alloc_lt _ _ _ (World.block_lt_of_cell? _ _ (((HB.out.cell (World.block_lt_of_cell? w _ hw101_0)).trans hw101_0)))).trans (((HB.out.cell (World.block_lt_of_cell? w _ hw101_0)).trans hw101_0)), (World.cell?_alloc_lt _ _ _ (World.block_lt_of_cell? _ _ (((HB.out.cell (World.block_lt_of_cell? w _ hw101_1)).trans hw101_1)))).trans (((HB.out.cell (World.block_lt_of_cell? w _ hw101_1)).trans hw101_1)), (World.cell?_alloc_lt _ _ _ (World.block_lt_of_cell? _ _ (((HB.out.cell (World.block_lt_of_cell? w _ hw101_2)).trans hw101_2)))).trans (((HB.out.cell (World.block_lt_of_cell? w _ hw101_2)).trans hw101_2)), (World.cell?_alloc_lt _ _ _ (World.block_lt_of_cell? _ _ (((HB.out.cell (World.block_lt_of_cell? w _ hw102_0)).trans hw102_0)))).trans (((HB.out.cell (World.block_lt_of_cell? w _ hw102_0)).trans hw102_0)), (World.cell?_alloc_lt _ _ _ (World.block_lt_of_cell? _ _ (((HB.out.cell (World.block_lt_of_cell? w _ hw102_1)).trans hw102_1)))).trans (((HB.out.cell (World.block_lt_of_cell? w _ hw102_1)).trans hw102_1)), (World.cell?_alloc_lt _ _ _ (World.block_lt_of_cell? _ _ (((HB.out.cell (World.block_lt_of_cell? w _ hw102_2)).trans hw102_2)))).trans (((HB.out.cell (World.block_lt_of_cell? w _ hw102_2)).trans hw102_2)), (World.cell?_alloc_lt _ _ _ (World.block_lt_of_cell? _ _ (((HB.out.cell (World.block_lt_of_cell? w _ hw103_0)).trans hw103_0)))).trans (((HB.out.cell (World.block_lt_of_cell? w _ hw103_0)).trans hw103_0)), (World.cell?_alloc_lt _ _ _ (World.block_lt_of_cell? _ _ (((HB.out.cell (World.block_lt_of_cell? w _ hw103_1)).trans hw103_1)))).trans (((HB.out.cell (World.block_lt_of_cell? w _ hw103_1)).trans hw103_1)), (World.cell?_alloc_lt _ _ _ (World.block_lt_of_cell? _ _ (((HB.out.cell (World.block_lt_of_cell? w _ hw103_2)).trans hw103_2)))).trans (((HB.out.cell (World.block_lt_of_cell? w _ hw103_2)).trans hw103_2))⟩ (fun hHeld => ?_)
      clear hK K
      refine norm_ (a' := ?_) ?_ ?_
      rotate_left
      ·show Act.put _ (some 28) _ = _
       simp only [Act.put, List.setIfInBounds_toArray, List.set_cons_zero, List.set_cons_succ, i64_w, i32_w]
       rfl
      refine one_ (i := 18) (N := some 29) (mk_ 19 1) rfl rfl (one_of HT_.out (by kernel_rfl)) (by decide) (fun K hK => ?_)
      refine Kd.R_append_step k50 (w0 := w) w.heap.size (by rfl) (.tmp 11) (.tmp 28) 23 50 (.agg #[(.int .i64 0), (.int .u64 0), (.int .i64 0)]) 24 rfl Try.underlying23 info50 rfl (by decide) (by omega) u3 x3_1 (⟨(rd_T40 l0 x4_1).f0, (rd_T40 l0 x4_1).f1, (rd_T40 l0 x4_1).f2⟩ : S50) [.int .i64 ((rd_T40 l0 x4_1).f0), .int .u64 ((rd_T40 l0 x4_1).f1), .int .i64 ((rd_T40 l0 x4_1).f2)] (fun _ => True) (fun _ => False) rfl rfl ?aP (fun _ hk => hk.elim) ?aF ?aO ?aB ?aS ?aL ?_
      (case aP => exact k50_mkM _ _ _ (⟨(rd_T40 l0 x4_1).f0, (rd_T40 l0 x4_1).f1, (rd_T40 l0 x4_1).f2⟩ : S50))
      (case aB => exact (bn HB))
      (case aF => exact (fun _ _ => trivial))
      (case aO => exact (rn HO_3))
      (case aS => exact (below_size (bn HB)))
      (case aL => have := LMc4.out; omega)
      intro v105 w6 ho hb hg hat
      rw [← Ny104.out] at ho
      have n0_ := Aside0.mk (hb)
      have n1_ := Aside0.mk (ho)
      clear HB
      clear HO_3
      have HB := n0_
      have HO106 := n1_
      clear n0_ n1_
      clear ho hb hg hat
      refine hK.out _ _ ⟨((HB.out.cell (World.block_lt_of_cell? w _ hw101_0)).trans hw101_0), ((HB.out.cell (World.block_lt_of_cell? w _ hw101_1)).trans hw101_1), ((HB.out.cell (World.block_lt_of_cell? w _ hw101_2)).trans hw101_2), ((HB.out.cell (World.block_lt_of_cell? w _ hw102_0)).trans hw102_0), ((HB.out.cell (World.block_lt_of_cell? w _ hw102_1)).trans hw102_1), ((HB.out.cell (World.block_lt_of_cell? w _ hw102_2)).trans hw102_2), ((HB.out.cell (World.block_lt_of_cell? w _ hw103_0)).trans hw103_0), ((HB.out.cell (World.block_lt_of_cell? w _ hw103_1)).trans hw103_1), ((HB.out.cell (World.block_lt_of_cell? w _ hw103_2)).trans hw103_2)⟩ (fun hHeld => ?_)
      clear hK K
      refine norm_ (a' := ?_) ?_ ?_
      rotate_left
      ·show Act.put _ (some 29) _ = _
       simp only [Act.put, List.setIfInBounds_toArray, List.set_cons_zero, List.set_cons_succ, i64_w, i32_w]
       rfl
      refine pv_ 19 3 (mk_ 20 0) HT_ ?_
      refine done_ (done_of HT_.out (by kernel_rfl)) ?_
      try go_wp2
      go_roundg k1
      case measure => have := HK1.out; omega
      case rel => exact ⟨(y104), (wrap64 (x4_1 + 1)), (by first | rfl | (simp; done) | (simp [*]; done)), H', ⟨by have := HK1.out; omega⟩, ⟨by (with_reducible repeat (first | apply Kd.R_alloc | apply Kd.R_drewN | apply Kd.R_drew)); exact HO106.out⟩, ⟨by repeat (first | (with_reducible first | exact HB.out | apply below_alloc | apply pw_below_drewN | apply below_drew1) | exact HB.out)⟩⟩
     ·rw [if_neg c4] at H
      exact absurd H (by simp)
    ·rw [if_neg c3] at H
     exact absurd H (by simp)
   ·rw [if_neg c2] at H
    have c2b0 : decide (x4_1 < (l0.length : Int)) = false := decide_eq_false c2
    clear c2
    obtain rfl := Option.some.inj H
    go_wp2
    go_ret
    exact ⟨_, by first | rfl | (simp [errW_none, errW_some] <;> rfl) | (simp [*, errW_none, errW_some] <;> rfl), by (with_reducible repeat (first | apply Kd.R_alloc | apply Kd.R_drewN | apply Kd.R_drew)); exact HO_3.out, by repeat (first | (with_reducible first | exact HB.out | apply below_alloc | apply pw_below_drewN | apply below_drew1) | exact HB.out)⟩
end Go.Proofs.Ytgeldmhgbnamcaa.P
end
section
-- Printed by the session's own turn of the print (wip/tools/print2.sh): some callees are proved by hand.
namespace Go.Proofs.Ytgeldmhgbnamcaa.P
open Go.RowKit Go.Proofs.YtgeldmhgbnamcaaW.PrintWords Go.Proofs.YtgeldmhgbnamcaaW.PrintLast Go.Proofs.YtgeldmhgbnamcaaW.PrintMore
attribute [local go_sem] max2_int min2_int max_two min_two max_three min_three max_four min_four   -- for this text's walks alone
set_option linter.unusedVariables false
set_option linter.unusedSimpArgs false
/-! ### batch_within: function 73 -/
def batch_within.f (a0 : Int) : Option (Bool) := if a0 ≥ (-576460752303423488) then (some (decide (a0 ≤ 576460752303423488))) else (some false)
set_option maxHeartbeats 8000000 in
set_option maxRecDepth 100000 in
theorem batch_within.calls (a0 : Int) (r : Bool) (w : World) (h : batch_within.f a0 = some r) :
  Calls Try.prog 73 #[.int .i64 a0] w fun e w' => e = .returned (.bool r) ∧ Drawn0 w w' := by
 have H : (if a0 ≥ (-576460752303423488) then (some (decide (a0 ≤ 576460752303423488))) else (some false)) = some r := h
 clear h
 by_cases c2 : a0 ≥ (-576460752303423488)
 ·rw [if_pos c2] at H
  have c2b0 : decide ((-576460752303423488) ≤ a0) = true := decide_eq_true c2
  clear c2
  obtain rfl := Option.some.inj H
  go_enter Try.func73, Try.ntmps73
  go_wp2
  go_ret
  exact ⟨by first | rfl | (simp; done) | (simp [*]; done), by repeat (first | exact Drawn0.refl _ | apply Drawn0.step)⟩
 ·rw [if_neg c2] at H
  have c2b0 : decide ((-576460752303423488) ≤ a0) = false := decide_eq_false c2
  clear c2
  obtain rfl := Option.some.inj H
  go_enter Try.func73, Try.ntmps73
  go_wp2
  go_ret
  exact ⟨by first | rfl | (simp; done) | (simp [*]; done), by repeat (first | exact Drawn0.refl _ | apply Drawn0.step)⟩
end Go.Proofs.Ytgeldmhgbnamcaa.P
end
section
-- Printed by the session's own turn of the print (wip/tools/print2.sh): some callees are proved by hand.
namespace Go.Proofs.Ytgeldmhgbnamcaa.P
open Go.RowKit Go.Proofs.YtgeldmhgbnamcaaW.PrintWords Go.Proofs.YtgeldmhgbnamcaaW.PrintLast Go.Proofs.YtgeldmhgbnamcaaW.PrintMore
attribute [local go_sem] max2_int min2_int max_two min_two max_three min_three max_four min_four   -- for this text's walks alone
set_option linter.unusedVariables false
set_option linter.unusedSimpArgs false
/-! ### batch_wrong: function 48 -/
def batch_wrong.j0 : Nat → Bool → Int → Int → Int → Option (Int)
 | 0, _, _, _, _ => none
 | k + 1, x3, x108000, x108001, x108002 => if x3 = true then (some 2) else (if x108001 = 18446744073709551615 then (some 1) else ((batch_within.f x108002).bind fun t108 => (if t108 = true then (some 0) else (some 10))))
def batch_wrong.f (k : Nat) (a0_0 : Int) (a0_1 : Int) (a0_2 : Int) : Option (Int) := if a0_0 < 0 then (batch_wrong.j0 k true a0_0 a0_1 a0_2) else (batch_wrong.j0 k (decide (a0_0 ≥ 64)) a0_0 a0_1 a0_2)
theorem batch_wrong.mono_l : ∀ k, (∀ y0 y1 y2 y3, LeO (batch_wrong.j0 k y0 y1 y2 y3) (batch_wrong.j0 (k + 1) y0 y1 y2 y3))
 | 0 => fun _ _ _ _ r h => by simp [batch_wrong.j0] at h
 | k + 1 => by
  have ih0 := batch_wrong.mono_l k
  ·intro y0 y1 y2 y3
   unfold batch_wrong.j0
   repeat' first
   | (with_reducible exact ih0 _ _ _ _)
   | (with_reducible exact LeO.refl _)
   | (with_reducible exact LeO.none _)
   | (with_reducible refine LeO.ite ?_ ?_)
   | (with_reducible refine LeO.bind ?_ (fun _ => ?_))
   | exact ih0 _ _ _ _
   | exact LeO.none _
   | refine LeO.ite ?_ ?_
   | refine LeO.bind ?_ (fun _ => ?_)
theorem batch_wrong.mono : ∀ a0 a1 a2 k, LeO (batch_wrong.f k a0 a1 a2) (batch_wrong.f (k + 1) a0 a1 a2) := by
 intro a0 a1 a2 k
 have ih0 := batch_wrong.mono_l k
 unfold batch_wrong.f
 repeat' first
   | (with_reducible exact ih0 _ _ _ _)
   | (with_reducible exact LeO.refl _)
   | (with_reducible exact LeO.none _)
   | (with_reducible refine LeO.ite ?_ ?_)
   | (with_reducible refine LeO.bind ?_ (fun _ => ?_))
   | exact ih0 _ _ _ _
   | exact LeO.none _
   | refine LeO.ite ?_ ?_
   | refine LeO.bind ?_ (fun _ => ?_)
set_option maxHeartbeats 8000000 in
set_option maxRecDepth 100000 in
theorem batch_wrong.calls (k : Nat) (a0_0 : Int) (a0_1 : Int) (a0_2 : Int) (r : Int) (w : World) (h : batch_wrong.f k a0_0 a0_1 a0_2 = some r) :
  Calls Try.prog 48 #[.agg #[.int .i64 a0_0, .int .u64 a0_1, .int .i64 a0_2]] w fun e w' => e = .returned (.int .i64 r) ∧ Below w.heap.size w w' := by
 have hu50 := Try.underlying50
 have HB := Aside0.mk (Below.refl w.heap.size w)
 have H : (if a0_0 < 0 then (batch_wrong.j0 k true a0_0 a0_1 a0_2) else (batch_wrong.j0 k (decide (a0_0 ≥ 64)) a0_0 a0_1 a0_2)) = some r := h
 clear h
 have HC2 := Aside0.mk H
 clear H
 go_enter Try.func48, Try.ntmps48
 go_upto_region 1 with (first | ((with_reducible refine gate_dst (N := 1) rfl ?_); refine box_event ?hg (N := 1) ?hd (cs := #[.int .i64 a0_0, .int .u64 a0_1, .int .i64 a0_2]) (t := 50) ?hr ?_; (case hd => rfl); (case hg => rfl); (case hr => first | (go_simp; done) | (go_simp; rfl)); intro gb107 hg w3 hbox hb; have n1_ := Aside0.mk (hbox); have n2_ := Aside0.mk ((by rw [hg]; exact (below_size (bn HB)) : w.heap.size ≤ gb107)); have n3_ := Aside0.mk ((by rw [hg]; exact (below_size (bn HB)) : w.heap.size ≤ gb107)); replace HB := bb HB hb; have BK107 := n1_; have GW107 := n2_; have GE107 := n3_; clear n1_ n2_ n3_; clear hb hbox hg))
 (try simp only [Act.put, List.setIfInBounds_toArray, List.set_cons_zero, List.set_cons_succ])
 go_cut [3] (fun v3 wc => ∃ (kq : Nat) (x3_1 : Bool), v3 = .bool x3_1 ∧ Aside0 (batch_wrong.j0 kq x3_1 a0_0 a0_1 a0_2 = some r) ∧ Aside0 (kq ≤ k) ∧ Aside0 (wc.heap[gb107]? = some (.cells #[.int .i64 a0_0, .int .u64 a0_1, .int .i64 a0_2] 50 (0, 0))) ∧ Aside0 (Below w.heap.size w wc))
 case first =>
  have H := HC2.out
  clear HC2
  by_cases c4 : a0_0 < 0
  ·rw [if_pos c4] at H
   have c4b0 : decide (a0_0 < 0) = true := decide_eq_true c4
   clear c4
   (first | rw [c4b0] | (simp only [i64_w, i32_w]; rw [c4b0]) | skip)
   have H' := Aside0.mk H
   clear H
   have hcz5_0 : w3.cell? ⟨gb107, 0, none⟩ = some (.int .i64 a0_0) := (blk_cell BK107.out 0).trans rfl
   have hcz5_1 : w3.cell? ⟨gb107, 1, none⟩ = some (.int .u64 a0_1) := (blk_cell BK107.out 1).trans rfl
   have hcz5_2 : w3.cell? ⟨gb107, 2, none⟩ = some (.int .i64 a0_2) := (blk_cell BK107.out 2).trans rfl
   have hfz5_0 := blk_frozen BK107.out 0
   have hfz5_1 := blk_frozen BK107.out 1
   have hfz5_2 := blk_frozen BK107.out 2
   go_wp2
   go_meet
   case rel => exact ⟨_, (true), (by first | rfl | (simp; done) | (simp [*]; done)), H', ⟨by first | omega | exact Nat.le_refl _⟩, ⟨by (with_reducible repeat (first | refine blk_drewN ?_ _ | refine blk_drew ?_ | refine blk_alloc ?_ _)); exact BK107.out⟩, ⟨by repeat (first | (with_reducible first | exact HB.out | apply below_alloc | apply pw_below_drewN | apply below_drew1 | refine below_set ?_ GE107.out) | exact HB.out)⟩⟩
  ·rw [if_neg c4] at H
   have c4b0 : decide (a0_0 < 0) = false := decide_eq_false c4
   clear c4
   (first | rw [c4b0] | (simp only [i64_w, i32_w]; rw [c4b0]) | skip)
   have H' := Aside0.mk H
   clear H
   have hcz6_0 : w3.cell? ⟨gb107, 0, none⟩ = some (.int .i64 a0_0) := (blk_cell BK107.out 0).trans rfl
   have hcz6_1 : w3.cell? ⟨gb107, 1, none⟩ = some (.int .u64 a0_1) := (blk_cell BK107.out 1).trans rfl
   have hcz6_2 : w3.cell? ⟨gb107, 2, none⟩ = some (.int .i64 a0_2) := (blk_cell BK107.out 2).trans rfl
   have hfz6_0 := blk_frozen BK107.out 0
   have hfz6_1 := blk_frozen BK107.out 1
   have hfz6_2 := blk_frozen BK107.out 2
   go_wp2
   go_meet
   case rel => exact ⟨_, (decide (a0_0 ≥ 64)), (by first | rfl | (simp; done) | (simp [*]; done)), H', ⟨by first | omega | exact Nat.le_refl _⟩, ⟨by (with_reducible repeat (first | refine blk_drewN ?_ _ | refine blk_drew ?_ | refine blk_alloc ?_ _)); exact BK107.out⟩, ⟨by repeat (first | (with_reducible first | exact HB.out | apply below_alloc | apply pw_below_drewN | apply below_drew1 | refine below_set ?_ GE107.out) | exact HB.out)⟩⟩
 case rest =>
  clear HC2
  (try clear p2); (try clear c4); (try clear c4b0); (try clear hcz5_0); (try clear hcz5_1); (try clear hcz5_2); (try clear hcz6_0); (try clear hcz6_1); (try clear hcz6_2); (try clear hfz5_0); (try clear hfz5_1); (try clear hfz5_2); (try clear hfz6_0); (try clear hfz6_1); (try clear hfz6_2)
  obtain ⟨kq, x3_1, rfl, HA, HJ1, BK107, HB⟩ := hcut
  cases kq with
  | zero => exact absurd HA.out (by simp [batch_wrong.j0])
  | succ kj1 =>
   have H := HA.out
   clear HA
   simp only [batch_wrong.j0] at H
   by_cases c7 : x3_1 = true
   ·subst c7
    have H1 : (some 2) = some r := by rw [if_pos rfl] at H; exact H
    clear H
    have H := H1
    clear H1
    obtain rfl := Option.some.inj H
    go_wp2
    go_ret
    exact ⟨by first | rfl | (simp [errW_none, errW_some] <;> rfl) | (simp [*, errW_none, errW_some] <;> rfl), by repeat (first | (with_reducible first | exact HB.out | apply below_alloc | apply pw_below_drewN | apply below_drew1 | refine below_set ?_ GE107.out) | exact HB.out)⟩
   ·replace c7 := Bool.eq_false_iff.mpr c7
    subst c7
    have H1 : (if a0_1 = 18446744073709551615 then (some 1) else ((batch_within.f a0_2).bind fun t108 => (if t108 = true then (some 0) else (some 10)))) = some r := by rw [if_neg (show ¬ (false = true) by decide)] at H; exact H
    clear H
    have H := H1
    clear H1
    by_cases c8 : a0_1 = 18446744073709551615
    ·rw [if_pos c8] at H
     have c8b0 : (a0_1 == 18446744073709551615) = true := beq_iff_eq.mpr c8
     have c8b1 : (a0_1 != 18446744073709551615) = false := bne_eq_false_iff_eq.mpr c8
     clear c8
     obtain rfl := Option.some.inj H
     have hcz9_0 : wc.cell? ⟨gb107, 0, none⟩ = some (.int .i64 a0_0) := (blk_cell BK107.out 0).trans rfl
     have hcz9_1 : wc.cell? ⟨gb107, 1, none⟩ = some (.int .u64 a0_1) := (blk_cell BK107.out 1).trans rfl
     have hcz9_2 : wc.cell? ⟨gb107, 2, none⟩ = some (.int .i64 a0_2) := (blk_cell BK107.out 2).trans rfl
     have hfz9_0 := blk_frozen BK107.out 0
     have hfz9_1 := blk_frozen BK107.out 1
     have hfz9_2 := blk_frozen BK107.out 2
     go_wp2
     go_ret
     exact ⟨by first | rfl | (simp [errW_none, errW_some] <;> rfl) | (simp [*, errW_none, errW_some] <;> rfl), by repeat (first | (with_reducible first | exact HB.out | apply below_alloc | apply pw_below_drewN | apply below_drew1 | refine below_set ?_ GE107.out) | exact HB.out)⟩
    ·rw [if_neg c8] at H
     have c8b0 : (a0_1 == 18446744073709551615) = false := beq_eq_false_iff_ne.mpr c8
     have c8b1 : (a0_1 != 18446744073709551615) = true := bne_iff_ne.mpr c8
     replace H := Option.bind_eq_some_iff.mp H
     obtain ⟨t108, A100, H⟩ := H
     replace H : (if t108 = true then (some 0) else (some 10)) = some r := H
     have A10 := Aside0.mk A100
     clear A100
     by_cases c11 : t108 = true
     ·subst c11
      have H1 : (some 0) = some r := by rw [if_pos rfl] at H; exact H
      clear H
      have H := H1
      clear H1
      obtain rfl := Option.some.inj H
      have hcz12_0 : wc.cell? ⟨gb107, 0, none⟩ = some (.int .i64 a0_0) := (blk_cell BK107.out 0).trans rfl
      have hcz12_1 : wc.cell? ⟨gb107, 1, none⟩ = some (.int .u64 a0_1) := (blk_cell BK107.out 1).trans rfl
      have hcz12_2 : wc.cell? ⟨gb107, 2, none⟩ = some (.int .i64 a0_2) := (blk_cell BK107.out 2).trans rfl
      have hfz12_0 := blk_frozen BK107.out 0
      have hfz12_1 := blk_frozen BK107.out 1
      have hfz12_2 := blk_frozen BK107.out 2
      go_wp2_with (first | ((with_reducible refine gate_callee (f := 73) rfl ?_); refine gl (some 19) Try.func73 #[.int .i64 a0_2] ?_; (with_reducible refine (batch_within.calls a0_2 true _ A10.out).mono ?_); rintro e w' ⟨rfl, ⟨nd, rfl⟩⟩; refine ⟨_, rfl, ?_⟩))
      go_ret
      exact ⟨by first | rfl | (simp [errW_none, errW_some] <;> rfl) | (simp [*, errW_none, errW_some] <;> rfl), by repeat (first | (with_reducible first | exact HB.out | apply below_alloc | apply pw_below_drewN | apply below_drew1 | refine below_set ?_ GE107.out) | exact HB.out)⟩
     ·replace c11 := Bool.eq_false_iff.mpr c11
      subst c11
      have H1 : (some 10) = some r := by rw [if_neg (show ¬ (false = true) by decide)] at H; exact H
      clear H
      have H := H1
      clear H1
      obtain rfl := Option.some.inj H
      have hcz13_0 : wc.cell? ⟨gb107, 0, none⟩ = some (.int .i64 a0_0) := (blk_cell BK107.out 0).trans rfl
      have hcz13_1 : wc.cell? ⟨gb107, 1, none⟩ = some (.int .u64 a0_1) := (blk_cell BK107.out 1).trans rfl
      have hcz13_2 : wc.cell? ⟨gb107, 2, none⟩ = some (.int .i64 a0_2) := (blk_cell BK107.out 2).trans rfl
      have hfz13_0 := blk_frozen BK107.out 0
      have hfz13_1 := blk_frozen BK107.out 1
      have hfz13_2 := blk_frozen BK107.out 2
      go_wp2_with (first | ((with_reducible refine gate_callee (f := 73) rfl ?_); refine gl (some 19) Try.func73 #[.int .i64 a0_2] ?_; (with_reducible refine (batch_within.calls a0_2 false _ A10.out).mono ?_); rintro e w' ⟨rfl, ⟨nd, rfl⟩⟩; refine ⟨_, rfl, ?_⟩))
      go_ret
      exact ⟨by first | rfl | (simp [errW_none, errW_some] <;> rfl) | (simp [*, errW_none, errW_some] <;> rfl), by repeat (first | (with_reducible first | exact HB.out | apply below_alloc | apply pw_below_drewN | apply below_drew1 | refine below_set ?_ GE107.out) | exact HB.out)⟩
end Go.Proofs.Ytgeldmhgbnamcaa.P
end
section
-- Printed by the session's own turn of the print (wip/tools/print2.sh): some callees are proved by hand.
namespace Go.Proofs.Ytgeldmhgbnamcaa.P
open Go.RowKit Go.Proofs.YtgeldmhgbnamcaaW.PrintWords Go.Proofs.YtgeldmhgbnamcaaW.PrintLast Go.Proofs.YtgeldmhgbnamcaaW.PrintMore
attribute [local go_sem] max2_int min2_int max_two min_two max_three min_three max_four min_four   -- for this text's walks alone
set_option linter.unusedVariables false
set_option linter.unusedSimpArgs false
/-! ### cmp_Or_int: function 75 -/
def cmp_Or_int.l0 : Nat → Int → List Int → Int → Int → Option (Int)
 | 0, _, _, _, _ => none
 | k + 1, x3, x6, x7, x8 => if x8 < x7 then (if 0 ≤ x8 then (if x8 < (x6.length : Int) then (if (rd x6 x8) = x3 then (cmp_Or_int.l0 k x3 x6 x7 (wrap64 (x8 + 1))) else (some (rd x6 x8))) else (none)) else (none)) else (some x3)
def cmp_Or_int.f (k : Nat) (l0 : List Int) : Option (Int) := cmp_Or_int.l0 k 0 l0 (l0.length : Int) 0
theorem cmp_Or_int.mono_l : ∀ k, (∀ y0 y1 y2 y3, LeO (cmp_Or_int.l0 k y0 y1 y2 y3) (cmp_Or_int.l0 (k + 1) y0 y1 y2 y3))
 | 0 => fun _ _ _ _ r h => by simp [cmp_Or_int.l0] at h
 | k + 1 => by
  have ih0 := cmp_Or_int.mono_l k
  ·intro y0 y1 y2 y3
   unfold cmp_Or_int.l0
   repeat' first
   | (with_reducible exact ih0 _ _ _ _)
   | (with_reducible exact LeO.refl _)
   | (with_reducible exact LeO.none _)
   | (with_reducible refine LeO.ite ?_ ?_)
   | (with_reducible refine LeO.bind ?_ (fun _ => ?_))
   | exact ih0 _ _ _ _
   | exact LeO.none _
   | refine LeO.ite ?_ ?_
   | refine LeO.bind ?_ (fun _ => ?_)
theorem cmp_Or_int.mono : ∀ a0 k, LeO (cmp_Or_int.f k a0) (cmp_Or_int.f (k + 1) a0) := by
 intro a0 k
 have ih0 := cmp_Or_int.mono_l k
 unfold cmp_Or_int.f
 repeat' first
   | (with_reducible exact ih0 _ _ _ _)
   | (with_reducible exact LeO.refl _)
   | (with_reducible exact LeO.none _)
   | (with_reducible refine LeO.ite ?_ ?_)
   | (with_reducible refine LeO.bind ?_ (fun _ => ?_))
   | exact ih0 _ _ _ _
   | exact LeO.none _
   | refine LeO.ite ?_ ?_
   | refine LeO.bind ?_ (fun _ => ?_)
set_option maxHeartbeats 8000000 in
set_option maxRecDepth 100000 in
theorem cmp_Or_int.calls (k : Nat) (A0 : Option Addr) (c0 : Nat) (l0 : List Int) (r : Int) (w : World) (hr0 : Kd.C (Kd.int .i64) w A0 l0.length l0) (hc0 : l0.length ≤ c0) (h : cmp_Or_int.f k l0 = some r) :
  Calls Try.prog 75 #[.slice A0 l0.length c0] w fun e w' => e = .returned (.int .i64 r) ∧ Drawn0 w w' := by
 have HR0 := Aside0.mk hr0
 have HC0 := Aside0.mk hc0
 clear hr0 hc0
 have H : (cmp_Or_int.l0 k 0 l0 (l0.length : Int) 0) = some r := h
 clear h
 have H' := Aside0.mk H
 clear H
 go_enter Try.func75, Try.ntmps75
 go_wp2
 go_loopg [8] k (fun kq v8 w' => ∃ (x8_1 : Int), v8 = .int .i64 x8_1 ∧ Aside0 (cmp_Or_int.l0 kq 0 l0 (l0.length : Int) x8_1 = some r) ∧ Aside0 (kq ≤ k) ∧ Drawn0 w w')
 case atStart => exact ⟨(0), (by first | rfl | (simp; done) | (simp [*]; done)), H', ⟨Nat.le_refl _⟩, by repeat (first | exact Drawn0.refl _ | apply Drawn0.step)⟩
 case round =>
  clear H'
  obtain ⟨x8_1, rfl, HA, HK1, ⟨m1, rfl⟩⟩ := hrel
  cases gk with
  | zero => exact absurd HA.out (by simp [cmp_Or_int.l0])
  | succ k1 =>
   have H := HA.out
   clear HA
   simp only [cmp_Or_int.l0] at H
   by_cases c2 : x8_1 < (l0.length : Int)
   ·rw [if_pos c2] at H
    have c2b0 : decide (x8_1 < (l0.length : Int)) = true := decide_eq_true c2
    clear c2
    by_cases c3 : 0 ≤ x8_1
    ·rw [if_pos c3] at H
     have c3b0 : decide (0 ≤ x8_1) = true := decide_eq_true c3
     clear c3
     by_cases c4 : x8_1 < (l0.length : Int)
     ·rw [if_pos c4] at H
      have c4b0 : decide (x8_1 < (l0.length : Int)) = true := decide_eq_true c4
      clear c4
      by_cases c5 : (rd l0 x8_1) = 0
      ·rw [if_pos c5] at H
       have c5b0 : ((rd l0 x8_1) == 0) = true := beq_iff_eq.mpr c5
       have c5b1 : ((rd l0 x8_1) != 0) = false := bne_eq_false_iff_eq.mpr c5
       clear c5
       have H' := Aside0.mk H
       clear H
       have p109 : 0 ≤ (x8_1 : Int) := of_decide_eq_true (by assumption)
       have q109 : x8_1 < (l0.length : Int) := of_decide_eq_true (by assumption)
       obtain ⟨ad109, e109, hx109_0⟩ := Kd.at_int HR0.out x8_1 p109 q109
       cases e109
       replace p109 := eq_true p109
       replace q109 := eq_true q109
       go_wp2
       go_roundg k1
       case measure => have := HK1.out; omega
       case rel => exact ⟨(wrap64 (x8_1 + 1)), (by first | rfl | (simp; done) | (simp [*]; done)), H', ⟨by have := HK1.out; omega⟩, by repeat (first | exact Drawn0.refl _ | apply Drawn0.step)⟩
      ·rw [if_neg c5] at H
       have c5b0 : ((rd l0 x8_1) == 0) = false := beq_eq_false_iff_ne.mpr c5
       have c5b1 : ((rd l0 x8_1) != 0) = true := bne_iff_ne.mpr c5
       obtain rfl := Option.some.inj H
       have p109 : 0 ≤ (x8_1 : Int) := of_decide_eq_true (by assumption)
       have q109 : x8_1 < (l0.length : Int) := of_decide_eq_true (by assumption)
       obtain ⟨ad109, e109, hx109_0⟩ := Kd.at_int HR0.out x8_1 p109 q109
       cases e109
       replace p109 := eq_true p109
       replace q109 := eq_true q109
       go_wp2
       go_ret
       exact ⟨by first | rfl | (simp; done) | (simp [*]; done), by repeat (first | exact Drawn0.refl _ | apply Drawn0.step)⟩
     ·rw [if_neg c4] at H
      exact absurd H (by simp)
    ·rw [if_neg c3] at H
     exact absurd H (by simp)
   ·rw [if_neg c2] at H
    have c2b0 : decide (x8_1 < (l0.length : Int)) = false := decide_eq_false c2
    clear c2
    obtain rfl := Option.some.inj H
    go_wp2
    go_ret
    exact ⟨by first | rfl | (simp; done) | (simp [*]; done), by repeat (first | exact Drawn0.refl _ | apply Drawn0.step)⟩
end Go.Proofs.Ytgeldmhgbnamcaa.P
end
section
-- Printed by the session's own turn of the print (wip/tools/print2.sh): some callees are proved by hand.
namespace Go.Proofs.Ytgeldmhgbnamcaa.P
open Go.RowKit Go.Proofs.YtgeldmhgbnamcaaW.PrintWords Go.Proofs.YtgeldmhgbnamcaaW.PrintLast Go.Proofs.YtgeldmhgbnamcaaW.PrintMore
attribute [local go_sem] max2_int min2_int max_two min_two max_three min_three max_four min_four   -- for this text's walks alone
set_option linter.unusedVariables false
set_option linter.unusedSimpArgs false
/-! ### cmp_isNaN_int: function 89 -/
def cmp_isNaN_int.f (a0 : Int) : Option (Bool) := some (a0 != a0)
set_option maxHeartbeats 8000000 in
set_option maxRecDepth 100000 in
theorem cmp_isNaN_int.calls (a0 : Int) (r : Bool) (w : World) (h : cmp_isNaN_int.f a0 = some r) :
  Calls Try.prog 89 #[.int .i64 a0] w fun e w' => e = .returned (.bool r) ∧ Drawn0 w w' := by
 have H : (some (a0 != a0)) = some r := h
 clear h
 obtain rfl := Option.some.inj H
 go_enter Try.func89, Try.ntmps89
 go_wp2
 go_ret
 exact ⟨by first | rfl | (simp; done) | (simp [*]; done), by repeat (first | exact Drawn0.refl _ | apply Drawn0.step)⟩
end Go.Proofs.Ytgeldmhgbnamcaa.P
end
section
-- Printed by the session's own turn of the print (wip/tools/print2.sh): some callees are proved by hand.
namespace Go.Proofs.Ytgeldmhgbnamcaa.P
open Go.RowKit Go.Proofs.YtgeldmhgbnamcaaW.PrintWords Go.Proofs.YtgeldmhgbnamcaaW.PrintLast Go.Proofs.YtgeldmhgbnamcaaW.PrintMore
attribute [local go_sem] max2_int min2_int max_two min_two max_three min_three max_four min_four   -- for this text's walks alone
set_option linter.unusedVariables false
set_option linter.unusedSimpArgs false
/-! ### cmp_Compare_int: function 76 -/
def cmp_Compare_int.f (a0 : Int) (a1 : Int) : Option (Int) := (cmp_isNaN_int.f a0).bind fun t110 => ((cmp_isNaN_int.f a1).bind fun t111 => (if t110 = true then (if t111 = true then (some 0) else (some (-1))) else (if t111 = true then (some 1) else (if a0 < a1 then (some (-1)) else (if a0 > a1 then (some 1) else (some 0))))))
set_option maxHeartbeats 8000000 in
set_option maxRecDepth 100000 in
theorem cmp_Compare_int.calls (a0 : Int) (a1 : Int) (r : Int) (w : World) (h : cmp_Compare_int.f a0 a1 = some r) :
  Calls Try.prog 76 #[.int .i64 a0, .int .i64 a1] w fun e w' => e = .returned (.int .i64 r) ∧ Drawn0 w w' := by
 have H : ((cmp_isNaN_int.f a0).bind fun t110 => ((cmp_isNaN_int.f a1).bind fun t111 => (if t110 = true then (if t111 = true then (some 0) else (some (-1))) else (if t111 = true then (some 1) else (if a0 < a1 then (some (-1)) else (if a0 > a1 then (some 1) else (some 0))))))) = some r := h
 clear h
 replace H := Option.bind_eq_some_iff.mp H
 obtain ⟨t110, A30, H⟩ := H
 replace H : ((cmp_isNaN_int.f a1).bind fun t111 => (if t110 = true then (if t111 = true then (some 0) else (some (-1))) else (if t111 = true then (some 1) else (if a0 < a1 then (some (-1)) else (if a0 > a1 then (some 1) else (some 0)))))) = some r := H
 have A3 := Aside0.mk A30
 clear A30
 replace H := Option.bind_eq_some_iff.mp H
 obtain ⟨t111, A40, H⟩ := H
 replace H : (if t110 = true then (if t111 = true then (some 0) else (some (-1))) else (if t111 = true then (some 1) else (if a0 < a1 then (some (-1)) else (if a0 > a1 then (some 1) else (some 0))))) = some r := H
 have A4 := Aside0.mk A40
 clear A40
 by_cases c5 : t110 = true
 ·subst c5
  have H1 : (if t111 = true then (some 0) else (some (-1))) = some r := by rw [if_pos rfl] at H; exact H
  clear H
  have H := H1
  clear H1
  by_cases c6 : t111 = true
  ·subst c6
   have H1 : (some 0) = some r := by rw [if_pos rfl] at H; exact H
   clear H
   have H := H1
   clear H1
   obtain rfl := Option.some.inj H
   go_enter Try.func76, Try.ntmps76
   go_wp2_with (first | ((with_reducible refine gate_callee (f := 89) rfl ?_); refine gl (some 8) Try.func89 #[.int .i64 a0] ?_; (with_reducible refine (cmp_isNaN_int.calls a0 true _ A3.out).mono ?_); rintro e w' ⟨rfl, ⟨nd, rfl⟩⟩; refine ⟨_, rfl, ?_⟩) | ((with_reducible refine gate_callee (f := 89) rfl ?_); refine gl (some 10) Try.func89 #[.int .i64 a1] ?_; (with_reducible refine (cmp_isNaN_int.calls a1 true _ A4.out).mono ?_); rintro e w' ⟨rfl, ⟨nd, rfl⟩⟩; refine ⟨_, rfl, ?_⟩))
   go_ret
   exact ⟨by first | rfl | (simp; done) | (simp [*]; done), by repeat (first | exact Drawn0.refl _ | apply Drawn0.step)⟩
  ·replace c6 := Bool.eq_false_iff.mpr c6
   subst c6
   have H1 : (some (-1)) = some r := by rw [if_neg (show ¬ (false = true) by decide)] at H; exact H
   clear H
   have H := H1
   clear H1
   obtain rfl := Option.some.inj H
   go_enter Try.func76, Try.ntmps76
   go_wp2_with (first | ((with_reducible refine gate_callee (f := 89) rfl ?_); refine gl (some 8) Try.func89 #[.int .i64 a0] ?_; (with_reducible refine (cmp_isNaN_int.calls a0 true _ A3.out).mono ?_); rintro e w' ⟨rfl, ⟨nd, rfl⟩⟩; refine ⟨_, rfl, ?_⟩) | ((with_reducible refine gate_callee (f := 89) rfl ?_); refine gl (some 10) Try.func89 #[.int .i64 a1] ?_; (with_reducible refine (cmp_isNaN_int.calls a1 false _ A4.out).mono ?_); rintro e w' ⟨rfl, ⟨nd, rfl⟩⟩; refine ⟨_, rfl, ?_⟩))
   go_ret
   exact ⟨by first | rfl | (simp; done) | (simp [*]; done), by repeat (first | exact Drawn0.refl _ | apply Drawn0.step)⟩
 ·replace c5 := Bool.eq_false_iff.mpr c5
  subst c5
  have H1 : (if t111 = true then (some 1) else (if a0 < a1 then (some (-1)) else (if a0 > a1 then (some 1) else (some 0)))) = some r := by rw [if_neg (show ¬ (false = true) by decide)] at H; exact H
  clear H
  have H := H1
  clear H1
  by_cases c7 : t111 = true
  ·subst c7
   have H1 : (some 1) = some r := by rw [if_pos rfl] at H; exact H
   clear H
   have H := H1
   clear H1
   obtain rfl := Option.some.inj H
   go_enter Try.func76, Try.ntmps76
   go_wp2_with (first | ((with_reducible refine gate_callee (f := 89) rfl ?_); refine gl (some 8) Try.func89 #[.int .i64 a0] ?_; (with_reducible refine (cmp_isNaN_int.calls a0 false _ A3.out).mono ?_); rintro e w' ⟨rfl, ⟨nd, rfl⟩⟩; refine ⟨_, rfl, ?_⟩) | ((with_reducible refine gate_callee (f := 89) rfl ?_); refine gl (some 10) Try.func89 #[.int .i64 a1] ?_; (with_reducible refine (cmp_isNaN_int.calls a1 true _ A4.out).mono ?_); rintro e w' ⟨rfl, ⟨nd, rfl⟩⟩; refine ⟨_, rfl, ?_⟩))
   go_ret
   exact ⟨by first | rfl | (simp; done) | (simp [*]; done), by repeat (first | exact Drawn0.refl _ | apply Drawn0.step)⟩
  ·replace c7 := Bool.eq_false_iff.mpr c7
   subst c7
   have H1 : (if a0 < a1 then (some (-1)) else (if a0 > a1 then (some 1) else (some 0))) = some r := by rw [if_neg (show ¬ (false = true) by decide)] at H; exact H
   clear H
   have H := H1
   clear H1
   by_cases c8 : a0 < a1
   ·rw [if_pos c8] at H
    have c8b0 : decide (a0 < a1) = true := decide_eq_true c8
    clear c8
    obtain rfl := Option.some.inj H
    go_enter Try.func76, Try.ntmps76
    go_wp2_with (first | ((with_reducible refine gate_callee (f := 89) rfl ?_); refine gl (some 8) Try.func89 #[.int .i64 a0] ?_; (with_reducible refine (cmp_isNaN_int.calls a0 false _ A3.out).mono ?_); rintro e w' ⟨rfl, ⟨nd, rfl⟩⟩; refine ⟨_, rfl, ?_⟩) | ((with_reducible refine gate_callee (f := 89) rfl ?_); refine gl (some 10) Try.func89 #[.int .i64 a1] ?_; (with_reducible refine (cmp_isNaN_int.calls a1 false _ A4.out).mono ?_); rintro e w' ⟨rfl, ⟨nd, rfl⟩⟩; refine ⟨_, rfl, ?_⟩))
    go_ret
    exact ⟨by first | rfl | (simp; done) | (simp [*]; done), by repeat (first | exact Drawn0.refl _ | apply Drawn0.step)⟩
   ·rw [if_neg c8] at H
    have c8b0 : decide (a0 < a1) = false := decide_eq_false c8
    clear c8
    by_cases c9 : a0 > a1
    ·rw [if_pos c9] at H
     have c9b0 : decide (a1 < a0) = true := decide_eq_true c9
     clear c9
     obtain rfl := Option.some.inj H
     go_enter Try.func76, Try.ntmps76
     go_wp2_with (first | ((with_reducible refine gate_callee (f := 89) rfl ?_); refine gl (some 8) Try.func89 #[.int .i64 a0] ?_; (with_reducible refine (cmp_isNaN_int.calls a0 false _ A3.out).mono ?_); rintro e w' ⟨rfl, ⟨nd, rfl⟩⟩; refine ⟨_, rfl, ?_⟩) | ((with_reducible refine gate_callee (f := 89) rfl ?_); refine gl (some 10) Try.func89 #[.int .i64 a1] ?_; (with_reducible refine (cmp_isNaN_int.calls a1 false _ A4.out).mono ?_); rintro e w' ⟨rfl, ⟨nd, rfl⟩⟩; refine ⟨_, rfl, ?_⟩))
     go_ret
     exact ⟨by first | rfl | (simp; done) | (simp [*]; done), by repeat (first | exact Drawn0.refl _ | apply Drawn0.step)⟩
    ·rw [if_neg c9] at H
     have c9b0 : decide (a1 < a0) = false := decide_eq_false c9
     clear c9
     obtain rfl := Option.some.inj H
     go_enter Try.func76, Try.ntmps76
     go_wp2_with (first | ((with_reducible refine gate_callee (f := 89) rfl ?_); refine gl (some 8) Try.func89 #[.int .i64 a0] ?_; (with_reducible refine (cmp_isNaN_int.calls a0 false _ A3.out).mono ?_); rintro e w' ⟨rfl, ⟨nd, rfl⟩⟩; refine ⟨_, rfl, ?_⟩) | ((with_reducible refine gate_callee (f := 89) rfl ?_); refine gl (some 10) Try.func89 #[.int .i64 a1] ?_; (with_reducible refine (cmp_isNaN_int.calls a1 false _ A4.out).mono ?_); rintro e w' ⟨rfl, ⟨nd, rfl⟩⟩; refine ⟨_, rfl, ?_⟩))
     go_ret
     exact ⟨by first | rfl | (simp; done) | (simp [*]; done), by repeat (first | exact Drawn0.refl _ | apply Drawn0.step)⟩
end Go.Proofs.Ytgeldmhgbnamcaa.P
end
section
-- Printed by the session's own turn of the print (wip/tools/print2.sh): some callees are proved by hand.
namespace Go.Proofs.Ytgeldmhgbnamcaa.P
open Go.RowKit Go.Proofs.YtgeldmhgbnamcaaW.PrintWords Go.Proofs.YtgeldmhgbnamcaaW.PrintLast Go.Proofs.YtgeldmhgbnamcaaW.PrintMore
attribute [local go_sem] max2_int min2_int max_two min_two max_three min_three max_four min_four   -- for this text's walks alone
set_option linter.unusedVariables false
set_option linter.unusedSimpArgs false
/-! ### cmp_isNaN_uint64: function 90 -/
def cmp_isNaN_uint64.f (a0 : Int) : Option (Bool) := some (a0 != a0)
set_option maxHeartbeats 8000000 in
set_option maxRecDepth 100000 in
theorem cmp_isNaN_uint64.calls (a0 : Int) (r : Bool) (w : World) (h : cmp_isNaN_uint64.f a0 = some r) :
  Calls Try.prog 90 #[.int .u64 a0] w fun e w' => e = .returned (.bool r) ∧ Drawn0 w w' := by
 have H : (some (a0 != a0)) = some r := h
 clear h
 obtain rfl := Option.some.inj H
 go_enter Try.func90, Try.ntmps90
 go_wp2
 go_ret
 exact ⟨by first | rfl | (simp; done) | (simp [*]; done), by repeat (first | exact Drawn0.refl _ | apply Drawn0.step)⟩
end Go.Proofs.Ytgeldmhgbnamcaa.P
end
section
-- Printed by the session's own turn of the print (wip/tools/print2.sh): some callees are proved by hand.
namespace Go.Proofs.Ytgeldmhgbnamcaa.P
open Go.RowKit Go.Proofs.YtgeldmhgbnamcaaW.PrintWords Go.Proofs.YtgeldmhgbnamcaaW.PrintLast Go.Proofs.YtgeldmhgbnamcaaW.PrintMore
attribute [local go_sem] max2_int min2_int max_two min_two max_three min_three max_four min_four   -- for this text's walks alone
set_option linter.unusedVariables false
set_option linter.unusedSimpArgs false
/-! ### cmp_Compare_uint64: function 77 -/
def cmp_Compare_uint64.f (a0 : Int) (a1 : Int) : Option (Int) := (cmp_isNaN_uint64.f a0).bind fun t112 => ((cmp_isNaN_uint64.f a1).bind fun t113 => (if t112 = true then (if t113 = true then (some 0) else (some (-1))) else (if t113 = true then (some 1) else (if a0 < a1 then (some (-1)) else (if a0 > a1 then (some 1) else (some 0))))))
set_option maxHeartbeats 8000000 in
set_option maxRecDepth 100000 in
theorem cmp_Compare_uint64.calls (a0 : Int) (a1 : Int) (r : Int) (w : World) (h : cmp_Compare_uint64.f a0 a1 = some r) :
  Calls Try.prog 77 #[.int .u64 a0, .int .u64 a1] w fun e w' => e = .returned (.int .i64 r) ∧ Drawn0 w w' := by
 have H : ((cmp_isNaN_uint64.f a0).bind fun t112 => ((cmp_isNaN_uint64.f a1).bind fun t113 => (if t112 = true then (if t113 = true then (some 0) else (some (-1))) else (if t113 = true then (some 1) else (if a0 < a1 then (some (-1)) else (if a0 > a1 then (some 1) else (some 0))))))) = some r := h
 clear h
 replace H := Option.bind_eq_some_iff.mp H
 obtain ⟨t112, A30, H⟩ := H
 replace H : ((cmp_isNaN_uint64.f a1).bind fun t113 => (if t112 = true then (if t113 = true then (some 0) else (some (-1))) else (if t113 = true then (some 1) else (if a0 < a1 then (some (-1)) else (if a0 > a1 then (some 1) else (some 0)))))) = some r := H
 have A3 := Aside0.mk A30
 clear A30
 replace H := Option.bind_eq_some_iff.mp H
 obtain ⟨t113, A40, H⟩ := H
 replace H : (if t112 = true then (if t113 = true then (some 0) else (some (-1))) else (if t113 = true then (some 1) else (if a0 < a1 then (some (-1)) else (if a0 > a1 then (some 1) else (some 0))))) = some r := H
 have A4 := Aside0.mk A40
 clear A40
 by_cases c5 : t112 = true
 ·subst c5
  have H1 : (if t113 = true then (some 0) else (some (-1))) = some r := by rw [if_pos rfl] at H; exact H
  clear H
  have H := H1
  clear H1
  by_cases c6 : t113 = true
  ·subst c6
   have H1 : (some 0) = some r := by rw [if_pos rfl] at H; exact H
   clear H
   have H := H1
   clear H1
   obtain rfl := Option.some.inj H
   go_enter Try.func77, Try.ntmps77
   go_wp2_with (first | ((with_reducible refine gate_callee (f := 90) rfl ?_); refine gl (some 8) Try.func90 #[.int .u64 a0] ?_; (with_reducible refine (cmp_isNaN_uint64.calls a0 true _ A3.out).mono ?_); rintro e w' ⟨rfl, ⟨nd, rfl⟩⟩; refine ⟨_, rfl, ?_⟩) | ((with_reducible refine gate_callee (f := 90) rfl ?_); refine gl (some 10) Try.func90 #[.int .u64 a1] ?_; (with_reducible refine (cmp_isNaN_uint64.calls a1 true _ A4.out).mono ?_); rintro e w' ⟨rfl, ⟨nd, rfl⟩⟩; refine ⟨_, rfl, ?_⟩))
   go_ret
   exact ⟨by first | rfl | (simp; done) | (simp [*]; done), by repeat (first | exact Drawn0.refl _ | apply Drawn0.step)⟩
  ·replace c6 := Bool.eq_false_iff.mpr c6
   subst c6
   have H1 : (some (-1)) = some r := by rw [if_neg (show ¬ (false = true) by decide)] at H; exact H
   clear H
   have H := H1
   clear H1
   obtain rfl := Option.some.inj H
   go_enter Try.func77, Try.ntmps77
   go_wp2_with (first | ((with_reducible refine gate_callee (f := 90) rfl ?_); refine gl (some 8) Try.func90 #[.int .u64 a0] ?_; (with_reducible refine (cmp_isNaN_uint64.calls a0 true _ A3.out).mono ?_); rintro e w' ⟨rfl, ⟨nd, rfl⟩⟩; refine ⟨_, rfl, ?_⟩) | ((with_reducible refine gate_callee (f := 90) rfl ?_); refine gl (some 10) Try.func90 #[.int .u64 a1] ?_; (with_reducible refine (cmp_isNaN_uint64.calls a1 false _ A4.out).mono ?_); rintro e w' ⟨rfl, ⟨nd, rfl⟩⟩; refine ⟨_, rfl, ?_⟩))
   go_ret
   exact ⟨by first | rfl | (simp; done) | (simp [*]; done), by repeat (first | exact Drawn0.refl _ | apply Drawn0.step)⟩
 ·replace c5 := Bool.eq_false_iff.mpr c5
  subst c5
  have H1 : (if t113 = true then (some 1) else (if a0 < a1 then (some (-1)) else (if a0 > a1 then (some 1) else (some 0)))) = some r := by rw [if_neg (show ¬ (false = true) by decide)] at H; exact H
  clear H
  have H := H1
  clear H1
  by_cases c7 : t113 = true
  ·subst c7
   have H1 : (some 1) = some r := by rw [if_pos rfl] at H; exact H
   clear H
   have H := H1
   clear H1
   obtain rfl := Option.some.inj H
   go_enter Try.func77, Try.ntmps77
   go_wp2_with (first | ((with_reducible refine gate_callee (f := 90) rfl ?_); refine gl (some 8) Try.func90 #[.int .u64 a0] ?_; (with_reducible refine (cmp_isNaN_uint64.calls a0 false _ A3.out).mono ?_); rintro e w' ⟨rfl, ⟨nd, rfl⟩⟩; refine ⟨_, rfl, ?_⟩) | ((with_reducible refine gate_callee (f := 90) rfl ?_); refine gl (some 10) Try.func90 #[.int .u64 a1] ?_; (with_reducible refine (cmp_isNaN_uint64.calls a1 true _ A4.out).mono ?_); rintro e w' ⟨rfl, ⟨nd, rfl⟩⟩; refine ⟨_, rfl, ?_⟩))
   go_ret
   exact ⟨by first | rfl | (simp; done) | (simp [*]; done), by repeat (first | exact Drawn0.refl _ | apply Drawn0.step)⟩
  ·replace c7 := Bool.eq_false_iff.mpr c7
   subst c7
   have H1 : (if a0 < a1 then (some (-1)) else (if a0 > a1 then (some 1) else (some 0))) = some r := by rw [if_neg (show ¬ (false = true) by decide)] at H; exact H
   clear H
   have H := H1
   clear H1
   by_cases c8 : a0 < a1
   ·rw [if_pos c8] at H
    have c8b0 : decide (a0 < a1) = true := decide_eq_true c8
    clear c8
    obtain rfl := Option.some.inj H
    go_enter Try.func77, Try.ntmps77
    go_wp2_with (first | ((with_reducible refine gate_callee (f := 90) rfl ?_); refine gl (some 8) Try.func90 #[.int .u64 a0] ?_; (with_reducible refine (cmp_isNaN_uint64.calls a0 false _ A3.out).mono ?_); rintro e w' ⟨rfl, ⟨nd, rfl⟩⟩; refine ⟨_, rfl, ?_⟩) | ((with_reducible refine gate_callee (f := 90) rfl ?_); refine gl (some 10) Try.func90 #[.int .u64 a1] ?_; (with_reducible refine (cmp_isNaN_uint64.calls a1 false _ A4.out).mono ?_); rintro e w' ⟨rfl, ⟨nd, rfl⟩⟩; refine ⟨_, rfl, ?_⟩))
    go_ret
    exact ⟨by first | rfl | (simp; done) | (simp [*]; done), by repeat (first | exact Drawn0.refl _ | apply Drawn0.step)⟩
   ·rw [if_neg c8] at H
    have c8b0 : decide (a0 < a1) = false := decide_eq_false c8
    clear c8
    by_cases c9 : a0 > a1
    ·rw [if_pos c9] at H
     have c9b0 : decide (a1 < a0) = true := decide_eq_true c9
     clear c9
     obtain rfl := Option.some.inj H
     go_enter Try.func77, Try.ntmps77
     go_wp2_with (first | ((with_reducible refine gate_callee (f := 90) rfl ?_); refine gl (some 8) Try.func90 #[.int .u64 a0] ?_; (with_reducible refine (cmp_isNaN_uint64.calls a0 false _ A3.out).mono ?_); rintro e w' ⟨rfl, ⟨nd, rfl⟩⟩; refine ⟨_, rfl, ?_⟩) | ((with_reducible refine gate_callee (f := 90) rfl ?_); refine gl (some 10) Try.func90 #[.int .u64 a1] ?_; (with_reducible refine (cmp_isNaN_uint64.calls a1 false _ A4.out).mono ?_); rintro e w' ⟨rfl, ⟨nd, rfl⟩⟩; refine ⟨_, rfl, ?_⟩))
     go_ret
     exact ⟨by first | rfl | (simp; done) | (simp [*]; done), by repeat (first | exact Drawn0.refl _ | apply Drawn0.step)⟩
    ·rw [if_neg c9] at H
     have c9b0 : decide (a1 < a0) = false := decide_eq_false c9
     clear c9
     obtain rfl := Option.some.inj H
     go_enter Try.func77, Try.ntmps77
     go_wp2_with (first | ((with_reducible refine gate_callee (f := 90) rfl ?_); refine gl (some 8) Try.func90 #[.int .u64 a0] ?_; (with_reducible refine (cmp_isNaN_uint64.calls a0 false _ A3.out).mono ?_); rintro e w' ⟨rfl, ⟨nd, rfl⟩⟩; refine ⟨_, rfl, ?_⟩) | ((with_reducible refine gate_callee (f := 90) rfl ?_); refine gl (some 10) Try.func90 #[.int .u64 a1] ?_; (with_reducible refine (cmp_isNaN_uint64.calls a1 false _ A4.out).mono ?_); rintro e w' ⟨rfl, ⟨nd, rfl⟩⟩; refine ⟨_, rfl, ?_⟩))
     go_ret
     exact ⟨by first | rfl | (simp; done) | (simp [*]; done), by repeat (first | exact Drawn0.refl _ | apply Drawn0.step)⟩
end Go.Proofs.Ytgeldmhgbnamcaa.P
end
section
-- Printed by the session's own turn of the print (wip/tools/print2.sh): some callees are proved by hand.
namespace Go.Proofs.Ytgeldmhgbnamcaa.P
open Go.RowKit Go.Proofs.YtgeldmhgbnamcaaW.PrintWords Go.Proofs.YtgeldmhgbnamcaaW.PrintLast Go.Proofs.YtgeldmhgbnamcaaW.PrintMore
attribute [local go_sem] max2_int min2_int max_two min_two max_three min_three max_four min_four   -- for this text's walks alone
set_option linter.unusedVariables false
set_option linter.unusedSimpArgs false
/-! ### batch_order: function 53 -/
def batch_order.f (k : Nat) (a0_0 : Int) (a0_1 : Int) (a0_2 : Int) (a1_0 : Int) (a1_1 : Int) (a1_2 : Int) : Option (Int) := (cmp_Compare_int.f a0_0 a1_0).bind fun t116 => ((cmp_Compare_uint64.f a0_1 a1_1).bind fun t117 => ((cmp_Or_int.f k (([t116, t117] : List Int))).bind fun t121 => (some t121)))
theorem batch_order.mono : ∀ a0 a1 a2 a3 a4 a5 k, LeO (batch_order.f k a0 a1 a2 a3 a4 a5) (batch_order.f (k + 1) a0 a1 a2 a3 a4 a5) := by
 intro a0 a1 a2 a3 a4 a5 k
 unfold batch_order.f
 repeat' first
   | (with_reducible exact cmp_Or_int.mono _ _)
   | (with_reducible exact LeO.refl _)
   | (with_reducible exact LeO.none _)
   | (with_reducible refine LeO.ite ?_ ?_)
   | (with_reducible refine LeO.bind ?_ (fun _ => ?_))
   | exact cmp_Or_int.mono _ _
   | exact LeO.none _
   | refine LeO.ite ?_ ?_
   | refine LeO.bind ?_ (fun _ => ?_)
def batch_order.T1 : Bool × List (List Nat × List Nat) := (true, [([], []), ([0], [0]), ([], []), ([2], [2]), ([1, 3], [1, 3]), ([], []), ([5], [5]), ([], []), ([7], [7]), ([6, 8, 4], [6, 8]), ([4, 9], [4, 9]), ([10, 9], [10]), ([11, 11, 0, 1, 2, 3, 4, 5, 6, 7, 8, 9, 10, 11], [11])])
def batch_order.B1 : List Nat := [0, 1, 0, 4, 15, 0, 32, 0, 128, 511, 1023, 2047, 4095]
theorem batch_order.tab1 : rtab .any (opsOf Try.f53 1) = batch_order.T1 := by kernel_rfl
theorem batch_order.bits1 : waitsOk batch_order.T1.2 batch_order.B1 = true := by kernel_rfl
set_option maxHeartbeats 8000000 in
set_option maxRecDepth 100000 in
theorem batch_order.calls (k : Nat) (a0_0 : Int) (a0_1 : Int) (a0_2 : Int) (a1_0 : Int) (a1_1 : Int) (a1_2 : Int) (r : Int) (w : World) (h : batch_order.f k a0_0 a0_1 a0_2 a1_0 a1_1 a1_2 = some r) :
  Calls Try.prog 53 #[.agg #[.int .i64 a0_0, .int .u64 a0_1, .int .i64 a0_2], .agg #[.int .i64 a1_0, .int .u64 a1_1, .int .i64 a1_2]] w fun e w' => e = .returned (.int .i64 r) ∧ Below w.heap.size w w' := by
 have hu50 := Try.underlying50
 have HB := Aside0.mk (Below.refl w.heap.size w)
 have H : ((cmp_Compare_int.f a0_0 a1_0).bind fun t116 => ((cmp_Compare_uint64.f a0_1 a1_1).bind fun t117 => ((cmp_Or_int.f k (([t116, t117] : List Int))).bind fun t121 => (some t121)))) = some r := h
 clear h
 replace H := Option.bind_eq_some_iff.mp H
 obtain ⟨t116, A30, H⟩ := H
 replace H : ((cmp_Compare_uint64.f a0_1 a1_1).bind fun t117 => ((cmp_Or_int.f k (([t116, t117] : List Int))).bind fun t121 => (some t121))) = some r := H
 have A3 := Aside0.mk A30
 clear A30
 replace H := Option.bind_eq_some_iff.mp H
 obtain ⟨t117, A40, H⟩ := H
 replace H : ((cmp_Or_int.f k (([t116, t117] : List Int))).bind fun t121 => (some t121)) = some r := H
 have A4 := Aside0.mk A40
 clear A40
 obtain ⟨y118, hy118⟩ : ∃ y_ : List Int, y_ = (([t116, t117] : List Int)) := ⟨_, rfl⟩
 replace H : ((cmp_Or_int.f k y118).bind fun t121 => (some t121)) = some r := by first | (rw [hy118]; with_reducible exact H) | (have H2_ := (Option.bind_some _ _).symm.trans H; rw [hy118]; with_reducible exact H2_) | (have H2_ := (Option.bind_some _ _).symm.trans H; with_reducible exact H2_) | with_reducible exact H | (rw [hy118]; exact H) | exact H
 have Ny118 := Aside0.mk hy118
 clear hy118
 replace H := Option.bind_eq_some_iff.mp H
 obtain ⟨t121, A50, H⟩ := H
 replace H : (some t121) = some r := H
 have A5 := Aside0.mk A50
 clear A50
 obtain rfl := Option.some.inj H
 go_enter Try.func53, Try.ntmps53
 try go_wp2_with (first | ((with_reducible refine gate_dst (N := 2) rfl ?_); refine box_event ?hg (N := 2) ?hd (cs := #[.int .i64 a0_0, .int .u64 a0_1, .int .i64 a0_2]) (t := 50) ?hr ?_; (case hd => rfl); (case hg => rfl); (case hr => first | (go_simp; done) | (go_simp; rfl)); intro gb114 hg w6 hbox hb; have n1_ := Aside0.mk (hbox); have n2_ := Aside0.mk ((by rw [hg]; exact (below_size (bn HB)) : w.heap.size ≤ gb114)); have n3_ := Aside0.mk ((by rw [hg]; exact (below_size (bn HB)) : w.heap.size ≤ gb114)); replace HB := bb HB hb; have BK114 := n1_; have GW114 := n2_; have GE114 := n3_; clear n1_ n2_ n3_; clear hb hbox hg) | ((with_reducible refine gate_dst (N := 3) rfl ?_); refine box_event ?hg (N := 3) ?hd (cs := #[.int .i64 a1_0, .int .u64 a1_1, .int .i64 a1_2]) (t := 50) ?hr ?_; (case hd => rfl); (case hg => rfl); (case hr => first | (go_simp; done) | (go_simp; rfl)); intro gb115 hg w7 hbox hb; have n0_ := Aside0.mk (blk_below (g := gb114) (o := .cells #[.int .i64 a0_0, .int .u64 a0_1, .int .i64 a0_2] 50 (0, 0)) (by (with_reducible repeat (first | refine blk_drewN ?_ _ | refine blk_drew ?_ | refine blk_alloc ?_ _)); exact BK114.out) hb); have n1_ := Aside0.mk (below_step (by repeat (first | (with_reducible first | exact HB.out | apply below_alloc | apply pw_below_drewN | apply below_drew1 | refine below_set ?_ GE114.out) | exact HB.out)) hb); have n2_ := Aside0.mk (hbox); have n3_ := Aside0.mk ((by rw [hg]; exact (below_size (by repeat (first | (with_reducible first | exact HB.out | apply below_alloc | apply pw_below_drewN | apply below_drew1 | refine below_set ?_ GE114.out) | exact HB.out))) : w.heap.size ≤ gb115)); have n4_ := Aside0.mk ((by rw [hg]; exact (below_size (by repeat (first | (with_reducible first | exact HB.out | apply below_alloc | apply pw_below_drewN | apply below_drew1 | refine below_set ?_ GE114.out) | exact HB.out))) : w.heap.size ≤ gb115)); have n5_ := Aside0.mk ((by rw [hg]; exact Nat.ne_of_lt (blk_lt (g := gb114) (o := .cells #[.int .i64 a0_0, .int .u64 a0_1, .int .i64 a0_2] 50 (0, 0)) (by (with_reducible repeat (first | refine blk_drewN ?_ _ | refine blk_drew ?_ | refine blk_alloc ?_ _)); exact BK114.out)) : gb114 ≠ gb115)); have n6_ := Aside0.mk ((by rw [hg]; exact Nat.ne_of_gt (blk_lt (g := gb114) (o := .cells #[.int .i64 a0_0, .int .u64 a0_1, .int .i64 a0_2] 50 (0, 0)) (by (with_reducible repeat (first | refine blk_drewN ?_ _ | refine blk_drew ?_ | refine blk_alloc ?_ _)); exact BK114.out)) : gb115 ≠ gb114)); clear BK114; clear HB; have BK114 := n0_; have HB := n1_; have BK115 := n2_; have GW115 := n3_; have GE115 := n4_; have NB114_115 := n5_; have NB115_114 := n6_; clear n0_ n1_ n2_ n3_ n4_ n5_ n6_; clear hb hbox hg))
 have n0_ := Aside0.mk (blk_drew BK114.out)
 have n1_ := Aside0.mk (blk_drew BK115.out)
 have n2_ := Aside0.mk (below_drew1 HB.out)
 clear BK114
 clear BK115
 clear HB
 have BK114 := n0_
 have BK115 := n1_
 have HB := n2_
 clear n0_ n1_ n2_
 refine start_ (n := 13) (S := fun w' => w'.cell? ⟨gb114, 0, none⟩ = some (.int .i64 a0_0) ∧ w'.cell? ⟨gb114, 1, none⟩ = some (.int .u64 a0_1) ∧ w'.cell? ⟨gb114, 2, none⟩ = some (.int .i64 a0_2) ∧ w'.cell? ⟨gb115, 0, none⟩ = some (.int .i64 a1_0) ∧ w'.cell? ⟨gb115, 1, none⟩ = some (.int .u64 a1_1) ∧ w'.cell? ⟨gb115, 2, none⟩ = some (.int .i64 a1_2)) (ds := []) (mk_ 0 13) (by kernel_rfl) rfl rfl ⟨(blk_cell BK114.out 0).trans rfl, (blk_cell BK114.out 1).trans rfl, (blk_cell BK114.out 2).trans rfl, (blk_cell BK115.out 0).trans rfl, (blk_cell BK115.out 1).trans rfl, (blk_cell BK115.out 2).trans rfl⟩ (fun hHeld => ?_); refine with_tabW batch_order.tab1 batch_order.bits1 (fun HT_ HW_ => ?_)
 generalize w7.drew = w8 at BK114 BK115 HB hHeld ⊢
 refine pv_ 0 5 (mk_ 1 12) HT_ ?_
 refine pv_ 2 7 #[true, false, true, false, false, false, false, false, false, false, false, false, false] HT_ ?_
 refine pv_ 5 10 #[true, false, true, false, false, true, false, false, false, false, false, false, false] HT_ ?_
 refine pv_ 7 12 #[true, false, true, false, false, true, false, true, false, false, false, false, false] HT_ ?_
 refine tv_ 1 6 #[true, true, true, false, false, true, false, true, false, false, false, false, false] HT_ HW_ hHeld (hy := by rintro w' ⟨s0, s1, s2, s3, s4, s5⟩; go_simp; with_reducible rfl) (h := ?_)
 refine tv_ 3 8 #[true, true, true, true, false, true, false, true, false, false, false, false, false] HT_ HW_ hHeld (hy := by rintro w' ⟨s0, s1, s2, s3, s4, s5⟩; go_simp; with_reducible rfl) (h := ?_)
 refine tv_ 6 11 #[true, true, true, true, false, true, true, true, false, false, false, false, false] HT_ HW_ hHeld (hy := by rintro w' ⟨s0, s1, s2, s3, s4, s5⟩; go_simp; with_reducible rfl) (h := ?_)
 refine tv_ 8 13 #[true, true, true, true, false, true, true, true, true, false, false, false, false] HT_ HW_ hHeld (hy := by rintro w' ⟨s0, s1, s2, s3, s4, s5⟩; go_simp; with_reducible rfl) (h := ?_)
 refine one_ (i := 4) (N := some 9) (mk_ 9 4) rfl rfl (one_of HT_.out (by kernel_rfl)) (by decide) (fun K hK => ?_)
 refine goes_ Try.func76 (by kernel_rfl) rfl #[.int .i64 a0_0, .int .i64 a1_0] (by rfl) rfl rfl (by (try simp only [List.map_toArray, List.map_cons, List.map_nil]); first | done | rfl | (simp only [List.length_drop, List.length_take]; rfl)) ?_
 with_reducible refine (cmp_Compare_int.calls a0_0 a1_0 t116 _ A3.out).mono ?_
 rintro e w' ⟨rfl, ⟨nd, rfl⟩⟩
 refine ⟨_, rfl, ?_⟩
 refine hK.out _ _ ⟨(blk_cell BK114.out 0).trans rfl, (blk_cell BK114.out 1).trans rfl, (blk_cell BK114.out 2).trans rfl, (blk_cell BK115.out 0).trans rfl, (blk_cell BK115.out 1).trans rfl, (blk_cell BK115.out 2).trans rfl⟩ (fun hHeld => ?_)
 clear hK K
 refine norm_ (a' := ?_) ?_ ?_
 rotate_left
 ·show Act.put _ (some 9) _ = _
  simp only [Act.put, List.setIfInBounds_toArray, List.set_cons_zero, List.set_cons_succ, i64_w, i32_w]
  rfl
 refine one_ (i := 9) (N := some 14) (mk_ 10 3) rfl rfl (one_of HT_.out (by kernel_rfl)) (by decide) (fun K hK => ?_)
 refine goes_ Try.func77 (by kernel_rfl) rfl #[.int .u64 a0_1, .int .u64 a1_1] (by rfl) rfl rfl (by (try simp only [List.map_toArray, List.map_cons, List.map_nil]); first | done | rfl | (simp only [List.length_drop, List.length_take]; rfl)) ?_
 with_reducible refine (cmp_Compare_uint64.calls a0_1 a1_1 t117 _ A4.out).mono ?_
 rintro e w' ⟨rfl, ⟨nd, rfl⟩⟩
 refine ⟨_, rfl, ?_⟩
 refine hK.out _ _ ⟨(blk_cell BK114.out 0).trans rfl, (blk_cell BK114.out 1).trans rfl, (blk_cell BK114.out 2).trans rfl, (blk_cell BK115.out 0).trans rfl, (blk_cell BK115.out 1).trans rfl, (blk_cell BK115.out 2).trans rfl⟩ (fun hHeld => ?_)
 clear hK K
 refine norm_ (a' := ?_) ?_ ?_
 rotate_left
 ·show Act.put _ (some 14) _ = _
  simp only [Act.put, List.setIfInBounds_toArray, List.set_cons_zero, List.set_cons_succ, i64_w, i32_w]
  rfl
 refine one_ (i := 10) (N := some 15) (mk_ 11 2) rfl rfl (one_of HT_.out (by kernel_rfl)) (by decide) (fun K hK => ?_)
 refine Kd.R_lit_step (Kd.int .i64) _ 3 ?hg (N := 15) ?hd (xs := ([t116, t117] : List Int)) (inner := [.int .i64 t116, .int .i64 t117]) (ok := fun _ => True) (okp := fun _ => True) ?hr ?hp (fun _ hk => hk) trivial (Below.refl _ _) (Nat.le_refl _) (by simp) ?_; (case hd => rfl); (case hg => rfl); (case hr => first | (go_simp; done) | (go_simp; rfl)); (case hp => exact (Reps.one (show Kd.M (Kd.int .i64) _ _ _ t116 [.int .i64 t116] from rfl) (Reps.one (show Kd.M (Kd.int .i64) _ _ _ t117 [.int .i64 t117] from rfl) (Reps.none _ _))))
 intro v119 w9 ho10 hb hg_ hnew_
 clear hg_ hnew_
 (first | rw [← Ny118.out] at ho10 | (simp only [Int.reduceToNat] at ho10; rw [← Ny118.out] at ho10))
 have n0_ := Aside0.mk (Kd.R_lower ho10 (below_size (by repeat (first | (with_reducible first | exact HB.out | apply below_alloc | apply pw_below_drewN | apply below_drew1 | refine below_set ?_ GE114.out | refine below_set ?_ GE115.out) | exact HB.out))))
 have n1_ := Aside0.mk (blk_below (g := gb114) (o := .cells #[.int .i64 a0_0, .int .u64 a0_1, .int .i64 a0_2] 50 (0, 0)) (by (with_reducible repeat (first | refine blk_drewN ?_ _ | refine blk_drew ?_ | refine blk_alloc ?_ _)); exact BK114.out) hb)
 have n2_ := Aside0.mk (blk_below (g := gb115) (o := .cells #[.int .i64 a1_0, .int .u64 a1_1, .int .i64 a1_2] 50 (0, 0)) (by (with_reducible repeat (first | refine blk_drewN ?_ _ | refine blk_drew ?_ | refine blk_alloc ?_ _)); exact BK115.out) hb)
 have n3_ := Aside0.mk (below_step (by repeat (first | (with_reducible first | exact HB.out | apply below_alloc | apply pw_below_drewN | apply below_drew1 | refine below_set ?_ GE114.out | refine below_set ?_ GE115.out) | exact HB.out)) hb)
 clear BK114
 clear BK115
 clear HB
 have HO120 := n0_
 have BK114 := n1_
 have BK115 := n2_
 have HB := n3_
 clear n0_ n1_ n2_ n3_
 clear hb ho10
 obtain ⟨Ao11, co11, eo11⟩ := Kd.R_slice HO120.out
 (first | subst eo11 | (injection eo11 with f1_ f2_ f3_; have f4_ := f1_.symm; have f5_ := f3_.symm; clear f1_ f2_ f3_; subst f4_; subst f5_))
 refine hK.out _ _ ⟨(blk_cell BK114.out 0).trans rfl, (blk_cell BK114.out 1).trans rfl, (blk_cell BK114.out 2).trans rfl, (blk_cell BK115.out 0).trans rfl, (blk_cell BK115.out 1).trans rfl, (blk_cell BK115.out 2).trans rfl⟩ (fun hHeld => ?_)
 clear hK K
 refine norm_ (a' := ?_) ?_ ?_
 rotate_left
 ·show Act.put _ (some 15) _ = _
  simp only [Act.put, List.setIfInBounds_toArray, List.set_cons_zero, List.set_cons_succ, i64_w, i32_w]
  rfl
 refine one_ (i := 11) (N := some 16) (mk_ 12 1) rfl rfl (one_of HT_.out (by kernel_rfl)) (by decide) (fun K hK => ?_)
 refine goes_ Try.func75 (by kernel_rfl) rfl #[.slice Ao11 y118.length co11] (by rfl) rfl rfl (by (try simp only [List.map_toArray, List.map_cons, List.map_nil]); first | done | rfl | (simp only [List.length_drop, List.length_take]; rfl)) ?_
 with_reducible refine (cmp_Or_int.calls k _ _ y118 t121 _ ?side1 ?side2 A5.out).mono ?_
 (case side1 => exact rc HO120)
 (case side2 => exact rs HO120)
 rintro e w' ⟨rfl, ⟨nd, rfl⟩⟩
 refine ⟨_, rfl, ?_⟩
 refine hK.out _ _ ⟨(blk_cell BK114.out 0).trans rfl, (blk_cell BK114.out 1).trans rfl, (blk_cell BK114.out 2).trans rfl, (blk_cell BK115.out 0).trans rfl, (blk_cell BK115.out 1).trans rfl, (blk_cell BK115.out 2).trans rfl⟩ (fun hHeld => ?_)
 clear hK K
 refine norm_ (a' := ?_) ?_ ?_
 rotate_left
 ·show Act.put _ (some 16) _ = _
  simp only [Act.put, List.setIfInBounds_toArray, List.set_cons_zero, List.set_cons_succ, i64_w, i32_w]
  rfl
 refine pv_ 12 4 (mk_ 13 0) HT_ ?_
 refine done_ (done_of HT_.out (by kernel_rfl)) ?_
 try go_wp2
 go_ret
 exact ⟨by first | rfl | (simp [errW_none, errW_some] <;> rfl) | (simp [*, errW_none, errW_some] <;> rfl), by repeat (first | (with_reducible first | exact HB.out | apply below_alloc | apply pw_below_drewN | apply below_drew1 | refine below_set ?_ GE114.out | refine below_set ?_ GE115.out) | exact HB.out)⟩
end Go.Proofs.Ytgeldmhgbnamcaa.P
end
section
-- Printed by the session's own turn of the print (wip/tools/print2.sh): some callees are proved by hand.
namespace Go.Proofs.Ytgeldmhgbnamcaa.P
open Go.RowKit Go.Proofs.YtgeldmhgbnamcaaW.PrintWords Go.Proofs.YtgeldmhgbnamcaaW.PrintLast Go.Proofs.YtgeldmhgbnamcaaW.PrintMore
attribute [local go_sem] max2_int min2_int max_two min_two max_three min_three max_four min_four   -- for this text's walks alone
set_option linter.unusedVariables false
set_option linter.unusedSimpArgs false
/-! ### batch_Right: function 20 -/
def batch_Right.l0 : Nat → List (S50) → List (S50) → Int → Int → Option (Bool)
 | 0, _, _, _, _ => none
 | k + 1, x0, x5, x6, x7 => if x7 < x6 then (if 0 ≤ x7 then (if x7 < (x5.length : Int) then ((batch_wrong.f k ((rd_T50 x5 x7).f0) ((rd_T50 x5 x7).f1) ((rd_T50 x5 x7).f2)).bind fun t221 => (if t221 = 0 then (if ((rd_T50 x5 x7).f2) = 0 then (some false) else (if x7 > 0 then (if 0 ≤ (wrap64 (x7 - 1)) then (if (wrap64 (x7 - 1)) < (x0.length : Int) then ((batch_order.f k ((rd_T50 x0 (wrap64 (x7 - 1))).f0) ((rd_T50 x0 (wrap64 (x7 - 1))).f1) ((rd_T50 x0 (wrap64 (x7 - 1))).f2) ((rd_T50 x5 x7).f0) ((rd_T50 x5 x7).f1) ((rd_T50 x5 x7).f2)).bind fun t223 => (if t223 ≥ 0 then (some false) else (batch_Right.l0 k x0 x5 x6 (wrap64 (x7 + 1))))) else (none)) else (none)) else (batch_Right.l0 k x0 x5 x6 (wrap64 (x7 + 1))))) else (some false))) else (none)) else (none)) else (some true)
def batch_Right.f (k : Nat) (l0 : List (S50)) : Option (Bool) := batch_Right.l0 k l0 l0 (l0.length : Int) 0
theorem batch_Right.mono_l : ∀ k, (∀ y0 y1 y2 y3, LeO (batch_Right.l0 k y0 y1 y2 y3) (batch_Right.l0 (k + 1) y0 y1 y2 y3))
 | 0 => fun _ _ _ _ r h => by simp [batch_Right.l0] at h
 | k + 1 => by
  have ih0 := batch_Right.mono_l k
  ·intro y0 y1 y2 y3
   unfold batch_Right.l0
   repeat' first
   | (with_reducible exact ih0 _ _ _ _)
   | (with_reducible exact batch_order.mono _ _ _ _ _ _ _)
   | (with_reducible exact batch_wrong.mono _ _ _ _)
   | (with_reducible exact LeO.refl _)
   | (with_reducible exact LeO.none _)
   | (with_reducible refine LeO.ite ?_ ?_)
   | (with_reducible refine LeO.bind ?_ (fun _ => ?_))
   | exact ih0 _ _ _ _
   | exact batch_order.mono _ _ _ _ _ _ _
   | exact batch_wrong.mono _ _ _ _
   | exact LeO.none _
   | refine LeO.ite ?_ ?_
   | refine LeO.bind ?_ (fun _ => ?_)
theorem batch_Right.mono : ∀ a0 k, LeO (batch_Right.f k a0) (batch_Right.f (k + 1) a0) := by
 intro a0 k
 have ih0 := batch_Right.mono_l k
 unfold batch_Right.f
 repeat' first
   | (with_reducible exact ih0 _ _ _ _)
   | (with_reducible exact batch_order.mono _ _ _ _ _ _ _)
   | (with_reducible exact batch_wrong.mono _ _ _ _)
   | (with_reducible exact LeO.refl _)
   | (with_reducible exact LeO.none _)
   | (with_reducible refine LeO.ite ?_ ?_)
   | (with_reducible refine LeO.bind ?_ (fun _ => ?_))
   | exact ih0 _ _ _ _
   | exact batch_order.mono _ _ _ _ _ _ _
   | exact batch_wrong.mono _ _ _ _
   | exact LeO.none _
   | refine LeO.ite ?_ ?_
   | refine LeO.bind ?_ (fun _ => ?_)
def batch_Right.T4 : Bool × List (List Nat × List Nat) := (true, [([], []), ([0], [0]), ([1], [1]), ([2, 1], [2]), ([3], [3]), ([4, 3], [3, 4]), ([5, 3], [3, 5]), ([3, 6], [3, 6]), ([7, 3], [7]), ([8], [8]), ([9, 8], [8, 9]), ([10, 8, 8], [8, 10]), ([11], [11]), ([11], [11]), ([13, 11], [11, 13]), ([12, 14, 11], [11, 12, 14]), ([15, 11], [11, 15]), ([11], [11]), ([16, 17, 11, 11], [11, 16, 17]), ([18, 11], [11, 18]), ([11, 19, 8], [8, 11, 19]), ([8, 20], [8, 20])])
def batch_Right.B4 : List Nat := [0, 1, 3, 7, 15, 31, 63, 127, 255, 511, 1023, 2047, 4095, 4095, 12287, 32767, 65535, 4095, 262143, 524287, 1048575, 2097151]
theorem batch_Right.tab4 : rtab .any (opsOf Try.f20 4) = batch_Right.T4 := by kernel_rfl
theorem batch_Right.bits4 : waitsOk batch_Right.T4.2 batch_Right.B4 = true := by kernel_rfl
set_option maxHeartbeats 8000000 in
set_option maxRecDepth 100000 in
theorem batch_Right.calls (k : Nat) (A0 : Option Addr) (c0 : Nat) (l0 : List (S50)) (r : Bool) (w : World) (hr0 : Kd.C k50 w A0 l0.length l0) (hc0 : l0.length ≤ c0) (h : batch_Right.f k l0 = some r) :
  Calls Try.prog 20 #[.slice A0 l0.length c0] w fun e w' => e = .returned (.bool r) ∧ Below w.heap.size w w' := by
 have hu50 := Try.underlying50
 have HR0 := Aside0.mk hr0
 have HC0 := Aside0.mk hc0
 clear hr0 hc0
 have HB := Aside0.mk (Below.refl w.heap.size w)
 have H : (batch_Right.l0 k l0 l0 (l0.length : Int) 0) = some r := h
 clear h
 have H' := Aside0.mk H
 clear H
 go_enter Try.func20, Try.ntmps20
 go_wp2
 go_loopg [7] k (fun kq v7 w' => ∃ (x7_1 : Int), v7 = .int .i64 x7_1 ∧ Aside0 (batch_Right.l0 kq l0 l0 (l0.length : Int) x7_1 = some r) ∧ Aside0 (kq ≤ k) ∧ Aside0 (Below w.heap.size w w'))
 case atStart => exact ⟨(0), (by first | rfl | (simp; done) | (simp [*]; done)), H', ⟨Nat.le_refl _⟩, ⟨by repeat (first | (with_reducible first | exact HB.out | apply below_alloc | apply pw_below_drewN | apply below_drew1) | exact HB.out)⟩⟩
 case round =>
  clear H'
  obtain ⟨x7_1, rfl, HA, HK1, HB⟩ := hrel
  cases gk with
  | zero => exact absurd HA.out (by simp [batch_Right.l0])
  | succ k1 =>
   have H := HA.out
   clear HA
   simp only [batch_Right.l0] at H
   by_cases c2 : x7_1 < (l0.length : Int)
   ·rw [if_pos c2] at H
    have c2b0 : decide (x7_1 < (l0.length : Int)) = true := decide_eq_true c2
    clear c2
    by_cases c3 : 0 ≤ x7_1
    ·rw [if_pos c3] at H
     have c3b0 : decide (0 ≤ x7_1) = true := decide_eq_true c3
     clear c3
     by_cases c4 : x7_1 < (l0.length : Int)
     ·rw [if_pos c4] at H
      have c4b0 : decide (x7_1 < (l0.length : Int)) = true := decide_eq_true c4
      clear c4
      replace H := Option.bind_eq_some_iff.mp H
      obtain ⟨t221, A50, H⟩ := H
      replace H : (if t221 = 0 then (if ((rd_T50 l0 x7_1).f2) = 0 then (some false) else (if x7_1 > 0 then (if 0 ≤ (wrap64 (x7_1 - 1)) then (if (wrap64 (x7_1 - 1)) < (l0.length : Int) then ((batch_order.f k1 ((rd_T50 l0 (wrap64 (x7_1 - 1))).f0) ((rd_T50 l0 (wrap64 (x7_1 - 1))).f1) ((rd_T50 l0 (wrap64 (x7_1 - 1))).f2) ((rd_T50 l0 x7_1).f0) ((rd_T50 l0 x7_1).f1) ((rd_T50 l0 x7_1).f2)).bind fun t223 => (if t223 ≥ 0 then (some false) else (batch_Right.l0 k1 l0 l0 (l0.length : Int) (wrap64 (x7_1 + 1))))) else (none)) else (none)) else (batch_Right.l0 k1 l0 l0 (l0.length : Int) (wrap64 (x7_1 + 1))))) else (some false)) = some r := H
      have A5 := Aside0.mk A50
      clear A50
      by_cases c6 : t221 = 0
      ·rw [if_pos c6] at H
       have c6b0 : (t221 == 0) = true := beq_iff_eq.mpr c6
       have c6b1 : (t221 != 0) = false := bne_eq_false_iff_eq.mpr c6
       clear c6
       by_cases c7 : ((rd_T50 l0 x7_1).f2) = 0
       ·rw [if_pos c7] at H
        have c7b0 : (((rd_T50 l0 x7_1).f2) == 0) = true := beq_iff_eq.mpr c7
        have c7b1 : (((rd_T50 l0 x7_1).f2) != 0) = false := bne_eq_false_iff_eq.mpr c7
        clear c7
        obtain rfl := Option.some.inj H
        have p219 : 0 ≤ (x7_1 : Int) := of_decide_eq_true (by assumption)
        have q219 : x7_1 < (l0.length : Int) := of_decide_eq_true (by assumption)
        obtain ⟨ad219, e219, hx219_0, hx219_1, hx219_2⟩ := at_T50 HR0.out x7_1 p219 q219
        cases e219
        replace hx219_0 := (HB.out.cell (World.block_lt_of_cell? w _ hx219_0)).trans hx219_0
        replace hx219_1 := (HB.out.cell (World.block_lt_of_cell? w _ hx219_1)).trans hx219_1
        replace hx219_2 := (HB.out.cell (World.block_lt_of_cell? w _ hx219_2)).trans hx219_2
        replace p219 := eq_true p219
        replace q219 := eq_true q219
        try go_wp2_with (first | ((with_reducible refine gate_dst (N := 4) rfl ?_); refine box_event ?hg (N := 4) ?hd (cs := #[.int .i64 0, .int .u64 0, .int .i64 0]) (t := 50) ?hr ?_; (case hd => rfl); (case hg => rfl); (case hr => first | (go_simp; done) | (go_simp; rfl)); intro gb220 hg w8 hbox hb; have n1_ := Aside0.mk (hbox); have n2_ := Aside0.mk ((by rw [hg]; exact (below_size (bn HB)) : w.heap.size ≤ gb220)); have n3_ := Aside0.mk ((by rw [hg]; exact (below_size (bn HB)) : w.heap.size ≤ gb220)); replace HB := bb HB hb; have BK220 := n1_; have GW220 := n2_; have GE220 := n3_; clear n1_ n2_ n3_; clear hb hbox hg; have hcz9_0 : w8.cell? ⟨gb220, 0, none⟩ = some (.int .i64 0) := (blk_cell BK220.out 0).trans rfl; have hcz9_1 : w8.cell? ⟨gb220, 1, none⟩ = some (.int .u64 0) := (blk_cell BK220.out 1).trans rfl; have hcz9_2 : w8.cell? ⟨gb220, 2, none⟩ = some (.int .i64 0) := (blk_cell BK220.out 2).trans rfl; have hfz9_0 := blk_frozen BK220.out 0; have hfz9_1 := blk_frozen BK220.out 1; have hfz9_2 := blk_frozen BK220.out 2))
        have n0_ : Aside0 ((((w8.setCell ⟨gb220, 0, none⟩ (.int .i64 ((rd_T50 l0 x7_1).f0))).setCell ⟨gb220, 1, none⟩ (.int .u64 ((rd_T50 l0 x7_1).f1))).setCell ⟨gb220, 2, none⟩ (.int .i64 ((rd_T50 l0 x7_1).f2))).heap[gb220]? = some (.cells #[.int .i64 ((rd_T50 l0 x7_1).f0), .int .u64 ((rd_T50 l0 x7_1).f1), .int .i64 ((rd_T50 l0 x7_1).f2)] 50 (0, 0))) := ⟨by (with_reducible repeat (first | refine blk_drewN ?_ _ | refine blk_drew ?_ | refine blk_alloc ?_ _)); refine blk_put (cs := #[.int .i64 ((rd_T50 l0 x7_1).f0), .int .u64 ((rd_T50 l0 x7_1).f1), .int .i64 0]) ?_ 2 _ rfl; (with_reducible repeat (first | refine blk_drewN ?_ _ | refine blk_drew ?_ | refine blk_alloc ?_ _)); refine blk_put (cs := #[.int .i64 ((rd_T50 l0 x7_1).f0), .int .u64 0, .int .i64 0]) ?_ 1 _ rfl; (with_reducible repeat (first | refine blk_drewN ?_ _ | refine blk_drew ?_ | refine blk_alloc ?_ _)); refine blk_put (cs := #[.int .i64 0, .int .u64 0, .int .i64 0]) ?_ 0 _ rfl; (with_reducible repeat (first | refine blk_drewN ?_ _ | refine blk_drew ?_ | refine blk_alloc ?_ _)); exact BK220.out⟩
        have n1_ : Aside0 (Below w.heap.size w (((w8.setCell ⟨gb220, 0, none⟩ (.int .i64 ((rd_T50 l0 x7_1).f0))).setCell ⟨gb220, 1, none⟩ (.int .u64 ((rd_T50 l0 x7_1).f1))).setCell ⟨gb220, 2, none⟩ (.int .i64 ((rd_T50 l0 x7_1).f2)))) := ⟨by repeat (first | (with_reducible first | exact HB.out | apply below_alloc | apply pw_below_drewN | apply below_drew1 | refine below_set ?_ GE220.out) | exact HB.out)⟩
        (try clear BK220)
        (try clear HB)
        generalize (((w8.setCell ⟨gb220, 0, none⟩ (.int .i64 ((rd_T50 l0 x7_1).f0))).setCell ⟨gb220, 1, none⟩ (.int .u64 ((rd_T50 l0 x7_1).f1))).setCell ⟨gb220, 2, none⟩ (.int .i64 ((rd_T50 l0 x7_1).f2))) = w10 at n0_ n1_ ⊢
        have BK220 := n0_
        have HB := n1_
        clear n0_ n1_
        have n0_ := Aside0.mk (blk_drew BK220.out)
        have n1_ := Aside0.mk (below_drew1 HB.out)
        clear BK220
        clear HB
        have BK220 := n0_
        have HB := n1_
        clear n0_ n1_
        refine start_ (n := 22) (S := fun w' => w'.cell? ⟨gb220, 0, none⟩ = some (.int .i64 ((rd_T50 l0 x7_1).f0)) ∧ w'.cell? ⟨gb220, 1, none⟩ = some (.int .u64 ((rd_T50 l0 x7_1).f1)) ∧ w'.cell? ⟨gb220, 2, none⟩ = some (.int .i64 ((rd_T50 l0 x7_1).f2))) (ds := []) (mk_ 0 22) (by kernel_rfl) rfl rfl ⟨(blk_cell BK220.out 0).trans rfl, (blk_cell BK220.out 1).trans rfl, (blk_cell BK220.out 2).trans rfl⟩ (fun hHeld => ?_); refine with_tabW batch_Right.tab4 batch_Right.bits4 (fun HT_ HW_ => ?_)
        generalize w10.drew = w11 at BK220 HB hHeld ⊢
        refine tv_ 0 12 (mk_ 1 21) HT_ HW_ hHeld (hy := by rintro w' ⟨s0, s1, s2⟩; go_simp; with_reducible rfl) (h := ?_)
        refine one_ (i := 1) (N := some 13) (mk_ 2 20) rfl rfl (one_of HT_.out (by kernel_rfl)) (by decide) (fun K hK => ?_)
        refine goes_ Try.func48 (by kernel_rfl) rfl #[.agg #[.int .i64 ((rd_T50 l0 x7_1).f0), .int .u64 ((rd_T50 l0 x7_1).f1), .int .i64 ((rd_T50 l0 x7_1).f2)]] (by rfl) rfl rfl (by (try simp only [List.map_toArray, List.map_cons, List.map_nil]); first | done | rfl | (simp only [List.length_drop, List.length_take]; rfl)) ?_
        with_reducible refine (batch_wrong.calls k1 ((rd_T50 l0 x7_1).f0) ((rd_T50 l0 x7_1).f1) ((rd_T50 l0 x7_1).f2) t221 _ A5.out).mono ?_
        rintro e w12 ⟨rfl, hb⟩
        refine ⟨_, rfl, ?_⟩
        have n0_ := Aside0.mk (blk_below (g := gb220) (o := .cells #[.int .i64 ((rd_T50 l0 x7_1).f0), .int .u64 ((rd_T50 l0 x7_1).f1), .int .i64 ((rd_T50 l0 x7_1).f2)] 50 (0, 0)) (by (with_reducible repeat (first | refine blk_drewN ?_ _ | refine blk_drew ?_ | refine blk_alloc ?_ _)); exact BK220.out) hb)
        have n1_ := Aside0.mk (below_step (by repeat (first | (with_reducible first | exact HB.out | apply below_alloc | apply pw_below_drewN | apply below_drew1 | refine below_set ?_ GE220.out) | exact HB.out)) hb)
        clear BK220
        clear HB
        have BK220 := n0_
        have HB := n1_
        clear n0_ n1_
        (try clear hb)
        (try clear hb2)
        (try clear hk)
        (try clear hi)
        refine hK.out _ _ ⟨(blk_cell BK220.out 0).trans rfl, (blk_cell BK220.out 1).trans rfl, (blk_cell BK220.out 2).trans rfl⟩ (fun hHeld => ?_)
        clear hK K
        refine norm_ (a' := ?_) ?_ ?_
        rotate_left
        ·show Act.put _ (some 13) _ = _
         simp only [Act.put, List.setIfInBounds_toArray, List.set_cons_zero, List.set_cons_succ, i64_w, i32_w]
         rfl
        refine pv_ 2 14 (mk_ 3 19) HT_ ?_
        refine pv_ 3 15 (mk_ 4 18) HT_ ?_
        refine pv_ 4 16 (mk_ 5 17) HT_ ?_
        refine tv_ 5 17 (mk_ 6 16) HT_ HW_ hHeld (hy := by rintro w' ⟨s0, s1, s2⟩; go_simp; with_reducible rfl) (h := ?_)
        refine pv_ 6 18 (mk_ 7 15) HT_ ?_
        refine pv_ 7 19 (mk_ 8 14) HT_ ?_
        refine pv_ 8 20 (mk_ 9 13) HT_ ?_
        refine pu_ 9 21 (mk_ 10 12) HT_ ?_
        refine pu_ 10 22 (mk_ 11 11) HT_ ?_
        refine pu_ 11 23 (mk_ 12 10) HT_ ?_
        refine pu_ 12 24 (mk_ 13 9) HT_ ?_
        refine pu_ 13 25 (mk_ 14 8) HT_ ?_
        refine pu_ 14 26 (mk_ 15 7) HT_ ?_
        refine pu_ 15 27 (mk_ 16 6) HT_ ?_
        refine pu_ 16 28 (mk_ 17 5) HT_ ?_
        refine pu_ 17 29 (mk_ 18 4) HT_ ?_
        refine pu_ 18 30 (mk_ 19 3) HT_ ?_
        refine pu_ 19 31 (mk_ 20 2) HT_ ?_
        refine pu_ 20 32 (mk_ 21 1) HT_ ?_
        refine pv_ 21 33 (mk_ 22 0) HT_ ?_
        refine done_ (done_of HT_.out (by kernel_rfl)) ?_
        try go_wp2
        go_ret
        exact ⟨by first | rfl | (simp [errW_none, errW_some] <;> rfl) | (simp [*, errW_none, errW_some] <;> rfl), by repeat (first | (with_reducible first | exact HB.out | apply below_alloc | apply pw_below_drewN | apply below_drew1 | refine below_set ?_ GE220.out) | exact HB.out)⟩
       ·rw [if_neg c7] at H
        have c7b0 : (((rd_T50 l0 x7_1).f2) == 0) = false := beq_eq_false_iff_ne.mpr c7
        have c7b1 : (((rd_T50 l0 x7_1).f2) != 0) = true := bne_iff_ne.mpr c7
        by_cases c13 : x7_1 > 0
        ·rw [if_pos c13] at H
         have c13b0 : decide (0 < x7_1) = true := decide_eq_true c13
         clear c13
         obtain ⟨ji14, hji14⟩ : ∃ j_ : Int, (wrap64 (x7_1 - 1)) = j_ := ⟨_, rfl⟩
         replace H : (if 0 ≤ (ji14) then (if (ji14) < (l0.length : Int) then ((batch_order.f k1 ((rd_T50 l0 (ji14)).f0) ((rd_T50 l0 (ji14)).f1) ((rd_T50 l0 (ji14)).f2) ((rd_T50 l0 x7_1).f0) ((rd_T50 l0 x7_1).f1) ((rd_T50 l0 x7_1).f2)).bind fun t223 => (if t223 ≥ 0 then (some false) else (batch_Right.l0 k1 l0 l0 (l0.length : Int) (wrap64 (x7_1 + 1))))) else (none)) else (none)) = some r := by first | (rw [hji14] at H; exact H) | (simp only [hji14] at H ⊢; exact H)
         (try rw [hji14] at A5)
         have hji14w : (IntKind.i64.wrap (x7_1 - 1)) = ji14 := (i64_w _).trans hji14
         by_cases c15 : 0 ≤ (ji14)
         ·rw [if_pos c15] at H
          have c15b0 : decide (0 ≤ (ji14)) = true := decide_eq_true c15
          clear c15
          by_cases c16 : (ji14) < (l0.length : Int)
          ·rw [if_pos c16] at H
           have c16b0 : decide ((ji14) < (l0.length : Int)) = true := decide_eq_true c16
           clear c16
           replace H := Option.bind_eq_some_iff.mp H
           obtain ⟨t223, A170, H⟩ := H
           replace H : (if t223 ≥ 0 then (some false) else (batch_Right.l0 k1 l0 l0 (l0.length : Int) (wrap64 (x7_1 + 1)))) = some r := H
           have A17 := Aside0.mk A170
           clear A170
           by_cases c18 : t223 ≥ 0
           ·rw [if_pos c18] at H
            have c18b0 : decide (0 ≤ t223) = true := decide_eq_true c18
            clear c18
            obtain rfl := Option.some.inj H
            have p219 : 0 ≤ (x7_1 : Int) := of_decide_eq_true (by assumption)
            have q219 : x7_1 < (l0.length : Int) := of_decide_eq_true (by assumption)
            obtain ⟨ad219, e219, hx219_0, hx219_1, hx219_2⟩ := at_T50 HR0.out x7_1 p219 q219
            cases e219
            replace hx219_0 := (HB.out.cell (World.block_lt_of_cell? w _ hx219_0)).trans hx219_0
            replace hx219_1 := (HB.out.cell (World.block_lt_of_cell? w _ hx219_1)).trans hx219_1
            replace hx219_2 := (HB.out.cell (World.block_lt_of_cell? w _ hx219_2)).trans hx219_2
            replace p219 := eq_true p219
            replace q219 := eq_true q219
            try go_wp2_with (first | ((with_reducible refine gate_dst (N := 4) rfl ?_); refine box_event ?hg (N := 4) ?hd (cs := #[.int .i64 0, .int .u64 0, .int .i64 0]) (t := 50) ?hr ?_; (case hd => rfl); (case hg => rfl); (case hr => first | (go_simp; done) | (go_simp; rfl)); intro gb220 hg w19 hbox hb; have n1_ := Aside0.mk (hbox); have n2_ := Aside0.mk ((by rw [hg]; exact (below_size (bn HB)) : w.heap.size ≤ gb220)); have n3_ := Aside0.mk ((by rw [hg]; exact (below_size (bn HB)) : w.heap.size ≤ gb220)); replace HB := bb HB hb; have BK220 := n1_; have GW220 := n2_; have GE220 := n3_; clear n1_ n2_ n3_; clear hb hbox hg; have hcz20_0 : w19.cell? ⟨gb220, 0, none⟩ = some (.int .i64 0) := (blk_cell BK220.out 0).trans rfl; have hcz20_1 : w19.cell? ⟨gb220, 1, none⟩ = some (.int .u64 0) := (blk_cell BK220.out 1).trans rfl; have hcz20_2 : w19.cell? ⟨gb220, 2, none⟩ = some (.int .i64 0) := (blk_cell BK220.out 2).trans rfl; have hfz20_0 := blk_frozen BK220.out 0; have hfz20_1 := blk_frozen BK220.out 1; have hfz20_2 := blk_frozen BK220.out 2))
            have n0_ : Aside0 ((((w19.setCell ⟨gb220, 0, none⟩ (.int .i64 ((rd_T50 l0 x7_1).f0))).setCell ⟨gb220, 1, none⟩ (.int .u64 ((rd_T50 l0 x7_1).f1))).setCell ⟨gb220, 2, none⟩ (.int .i64 ((rd_T50 l0 x7_1).f2))).heap[gb220]? = some (.cells #[.int .i64 ((rd_T50 l0 x7_1).f0), .int .u64 ((rd_T50 l0 x7_1).f1), .int .i64 ((rd_T50 l0 x7_1).f2)] 50 (0, 0))) := ⟨by (with_reducible repeat (first | refine blk_drewN ?_ _ | refine blk_drew ?_ | refine blk_alloc ?_ _)); refine blk_put (cs := #[.int .i64 ((rd_T50 l0 x7_1).f0), .int .u64 ((rd_T50 l0 x7_1).f1), .int .i64 0]) ?_ 2 _ rfl; (with_reducible repeat (first | refine blk_drewN ?_ _ | refine blk_drew ?_ | refine blk_alloc ?_ _)); refine blk_put (cs := #[.int .i64 ((rd_T50 l0 x7_1).f0), .int .u64 0, .int .i64 0]) ?_ 1 _ rfl; (with_reducible repeat (first | refine blk_drewN ?_ _ | refine blk_drew ?_ | refine blk_alloc ?_ _)); refine blk_put (cs := #[.int .i64 0, .int .u64 0, .int .i64 0]) ?_ 0 _ rfl; (with_reducible repeat (first | refine blk_drewN ?_ _ | refine blk_drew ?_ | refine blk_alloc ?_ _)); exact BK220.out⟩
            have n1_ : Aside0 (Below w.heap.size w (((w19.setCell ⟨gb220, 0, none⟩ (.int .i64 ((rd_T50 l0 x7_1).f0))).setCell ⟨gb220, 1, none⟩ (.int .u64 ((rd_T50 l0 x7_1).f1))).setCell ⟨gb220, 2, none⟩ (.int .i64 ((rd_T50 l0 x7_1).f2)))) := ⟨by repeat (first | (with_reducible first | exact HB.out | apply below_alloc | apply pw_below_drewN | apply below_drew1 | refine below_set ?_ GE220.out) | exact HB.out)⟩
            (try clear BK220)
            (try clear HB)
            generalize (((w19.setCell ⟨gb220, 0, none⟩ (.int .i64 ((rd_T50 l0 x7_1).f0))).setCell ⟨gb220, 1, none⟩ (.int .u64 ((rd_T50 l0 x7_1).f1))).setCell ⟨gb220, 2, none⟩ (.int .i64 ((rd_T50 l0 x7_1).f2))) = w21 at n0_ n1_ ⊢
            have BK220 := n0_
            have HB := n1_
            clear n0_ n1_
            have n0_ := Aside0.mk (blk_drew BK220.out)
            have n1_ := Aside0.mk (below_drew1 HB.out)
            clear BK220
            clear HB
            have BK220 := n0_
            have HB := n1_
            clear n0_ n1_
            have p222 : 0 ≤ ((ji14) : Int) := of_decide_eq_true (by assumption)
            have q222 : (ji14) < (l0.length : Int) := of_decide_eq_true (by assumption)
            obtain ⟨ad222, e222, hx222_0, hx222_1, hx222_2⟩ := at_T50 HR0.out (ji14) p222 q222
            have hw222_2 := hx222_2
            have hw222_1 := hx222_1
            have hw222_0 := hx222_0
            obtain rfl : ad219 = ad222 := (by injection e222)
            replace hx222_0 := (HB.out.cell (World.block_lt_of_cell? w _ hx222_0)).trans hx222_0
            replace hx222_1 := (HB.out.cell (World.block_lt_of_cell? w _ hx222_1)).trans hx222_1
            replace hx222_2 := (HB.out.cell (World.block_lt_of_cell? w _ hx222_2)).trans hx222_2
            replace p222 := eq_true p222
            replace q222 := eq_true q222
            refine start_ (n := 22) (S := fun w' => w'.cell? ⟨gb220, 0, none⟩ = some (.int .i64 ((rd_T50 l0 x7_1).f0)) ∧ w'.cell? ⟨gb220, 1, none⟩ = some (.int .u64 ((rd_T50 l0 x7_1).f1)) ∧ w'.cell? ⟨gb220, 2, none⟩ = some (.int .i64 ((rd_T50 l0 x7_1).f2)) ∧ w'.cell? (ad219.add (((ji14)).toNat * 3)) = some (.int .i64 ((rd_T50 l0 (ji14)).f0)) ∧ w'.cell? ⟨(ad219.add (((ji14)).toNat * 3)).block, (ad219.add (((ji14)).toNat * 3)).off + 1, none⟩ = some (.int .u64 ((rd_T50 l0 (ji14)).f1)) ∧ w'.cell? ⟨(ad219.add (((ji14)).toNat * 3)).block, (ad219.add (((ji14)).toNat * 3)).off + 2, none⟩ = some (.int .i64 ((rd_T50 l0 (ji14)).f2))) (ds := []) (mk_ 0 22) (by kernel_rfl) rfl rfl ⟨(blk_cell BK220.out 0).trans rfl, (blk_cell BK220.out 1).trans rfl, (blk_cell BK220.out 2).trans rfl, ((HB.out.cell (World.block_lt_of_cell? w _ hw222_0)).trans hw222_0), ((HB.out.cell (World.block_lt_of_cell? w _ hw222_1)).trans hw222_1), ((HB.out.cell (World.block_lt_of_cell? w _ hw222_2)).trans hw222_2)⟩ (fun hHeld => ?_); refine with_tabW batch_Right.tab4 batch_Right.bits4 (fun HT_ HW_ => ?_)
            generalize w21.drew = w22 at BK220 HB hx222_0 hx222_1 hx222_2 hHeld ⊢
            refine tv_ 0 12 (mk_ 1 21) HT_ HW_ hHeld (hy := by rintro w' ⟨s0, s1, s2, s3, s4, s5⟩; go_simp; with_reducible rfl) (h := ?_)
            refine one_ (i := 1) (N := some 13) (mk_ 2 20) rfl rfl (one_of HT_.out (by kernel_rfl)) (by decide) (fun K hK => ?_)
            refine goes_ Try.func48 (by kernel_rfl) rfl #[.agg #[.int .i64 ((rd_T50 l0 x7_1).f0), .int .u64 ((rd_T50 l0 x7_1).f1), .int .i64 ((rd_T50 l0 x7_1).f2)]] (by rfl) rfl rfl (by (try simp only [List.map_toArray, List.map_cons, List.map_nil]); first | done | rfl | (simp only [List.length_drop, List.length_take]; rfl)) ?_
            with_reducible refine (batch_wrong.calls k1 ((rd_T50 l0 x7_1).f0) ((rd_T50 l0 x7_1).f1) ((rd_T50 l0 x7_1).f2) t221 _ A5.out).mono ?_
            rintro e w23 ⟨rfl, hb⟩
            refine ⟨_, rfl, ?_⟩
            have n0_ := Aside0.mk (blk_below (g := gb220) (o := .cells #[.int .i64 ((rd_T50 l0 x7_1).f0), .int .u64 ((rd_T50 l0 x7_1).f1), .int .i64 ((rd_T50 l0 x7_1).f2)] 50 (0, 0)) (by (with_reducible repeat (first | refine blk_drewN ?_ _ | refine blk_drew ?_ | refine blk_alloc ?_ _)); exact BK220.out) hb)
            have n1_ := Aside0.mk (below_step (by repeat (first | (with_reducible first | exact HB.out | apply below_alloc | apply pw_below_drewN | apply below_drew1 | refine below_set ?_ GE220.out) | exact HB.out)) hb)
            clear BK220
            clear HB
            have BK220 := n0_
            have HB := n1_
            clear n0_ n1_
            (try clear hb)
            (try clear hb2)
            (try clear hk)
            (try clear hi)
            refine hK.out _ _ ⟨(blk_cell BK220.out 0).trans rfl, (blk_cell BK220.out 1).trans rfl, (blk_cell BK220.out 2).trans rfl, ((HB.out.cell (World.block_lt_of_cell? w _ hw222_0)).trans hw222_0), ((HB.out.cell (World.block_lt_of_cell? w _ hw222_1)).trans hw222_1), ((HB.out.cell (World.block_lt_of_cell? w _ hw222_2)).trans hw222_2)⟩ (fun hHeld => ?_)
            clear hK K
            refine norm_ (a' := ?_) ?_ ?_
            rotate_left
            ·show Act.put _ (some 13) _ = _
             simp only [Act.put, List.setIfInBounds_toArray, List.set_cons_zero, List.set_cons_succ, i64_w, i32_w]
             rfl
            refine pv_ 2 14 (mk_ 3 19) HT_ ?_
            refine pv_ 3 15 (mk_ 4 18) HT_ ?_
            refine pv_ 4 16 (mk_ 5 17) HT_ ?_
            refine tv_ 5 17 (mk_ 6 16) HT_ HW_ hHeld (hy := by rintro w' ⟨s0, s1, s2, s3, s4, s5⟩; go_simp; with_reducible rfl) (h := ?_)
            refine pv_ 6 18 (mk_ 7 15) HT_ ?_
            refine pv_ 7 19 (mk_ 8 14) HT_ ?_
            refine pv_ 8 20 (mk_ 9 13) HT_ ?_
            refine pv_ 9 21 (mk_ 10 12) HT_ ?_
            refine pv_ 10 22 (mk_ 11 11) HT_ ?_
            refine pv_ 11 23 (mk_ 12 10) HT_ ?_
            refine pv_ 12 24 (mk_ 13 9) HT_ ?_
            refine pv_ 13 25 (mk_ 14 8) HT_ ?_
            refine pv_ 14 26 (mk_ 15 7) HT_ ?_
            refine pv_ 15 27 (mk_ 16 6) HT_ ?_
            refine tv_ 16 28 (mk_ 17 5) HT_ HW_ hHeld (hy := by rintro w' ⟨s0, s1, s2, s3, s4, s5⟩; go_simp; with_reducible rfl) (h := ?_)
            refine tv_ 17 29 (mk_ 18 4) HT_ HW_ hHeld (hy := by rintro w' ⟨s0, s1, s2, s3, s4, s5⟩; go_simp; with_reducible rfl) (h := ?_)
            refine one_ (i := 18) (N := some 30) (mk_ 19 3) rfl rfl (one_of HT_.out (by kernel_rfl)) (by decide) (fun K hK => ?_)
            refine goes_ Try.func53 (by kernel_rfl) rfl #[.agg #[.int .i64 ((rd_T50 l0 (ji14)).f0), .int .u64 ((rd_T50 l0 (ji14)).f1), .int .i64 ((rd_T50 l0 (ji14)).f2)], .agg #[.int .i64 ((rd_T50 l0 x7_1).f0), .int .u64 ((rd_T50 l0 x7_1).f1), .int .i64 ((rd_T50 l0 x7_1).f2)]] (by rfl) rfl rfl (by (try simp only [List.map_toArray, List.map_cons, List.map_nil]); first | done | (simp only [hji14]; rfl) | rfl | (simp only [List.length_drop, List.length_take]; rfl)) ?_
            with_reducible refine (batch_order.calls k1 ((rd_T50 l0 (ji14)).f0) ((rd_T50 l0 (ji14)).f1) ((rd_T50 l0 (ji14)).f2) ((rd_T50 l0 x7_1).f0) ((rd_T50 l0 x7_1).f1) ((rd_T50 l0 x7_1).f2) t223 _ A17.out).mono ?_
            rintro e w24 ⟨rfl, hb⟩
            refine ⟨_, rfl, ?_⟩
            have n0_ := Aside0.mk (blk_below (g := gb220) (o := .cells #[.int .i64 ((rd_T50 l0 x7_1).f0), .int .u64 ((rd_T50 l0 x7_1).f1), .int .i64 ((rd_T50 l0 x7_1).f2)] 50 (0, 0)) (by (with_reducible repeat (first | refine blk_drewN ?_ _ | refine blk_drew ?_ | refine blk_alloc ?_ _)); exact BK220.out) hb)
            have n1_ := Aside0.mk (below_step (by repeat (first | (with_reducible first | exact HB.out | apply below_alloc | apply pw_below_drewN | apply below_drew1 | refine below_set ?_ GE220.out) | exact HB.out)) hb)
            clear BK220
            clear HB
            have BK220 := n0_
            have HB := n1_
            clear n0_ n1_
            (try clear hb)
            (try clear hb2)
            (try clear hk)
            (try clear hi)
            refine hK.out _ _ ⟨(blk_cell BK220.out 0).trans rfl, (blk_cell BK220.out 1).trans rfl, (blk_cell BK220.out 2).trans rfl, ((HB.out.cell (World.block_lt_of_cell? w _ hw222_0)).trans hw222_0), ((HB.out.cell (World.block_lt_of_cell? w _ hw222_1)).trans hw222_1), ((HB.out.cell (World.block_lt_of_cell? w _ hw222_2)).trans hw222_2)⟩ (fun hHeld => ?_)
            clear hK K
            refine norm_ (a' := ?_) ?_ ?_
            rotate_left
            ·show Act.put _ (some 30) _ = _
             simp only [Act.put, List.setIfInBounds_toArray, List.set_cons_zero, List.set_cons_succ, i64_w, i32_w]
             rfl
            refine pv_ 19 31 (mk_ 20 2) HT_ ?_
            refine pv_ 20 32 (mk_ 21 1) HT_ ?_
            refine pv_ 21 33 (mk_ 22 0) HT_ ?_
            refine done_ (done_of HT_.out (by kernel_rfl)) ?_
            try go_wp2
            go_ret
            exact ⟨by first | rfl | (simp [errW_none, errW_some] <;> rfl) | (simp only [← hji14]; first | rfl | (simp [errW_none, errW_some] <;> rfl)) | (simp [*, errW_none, errW_some] <;> rfl), by repeat (first | (with_reducible first | exact HB.out | apply below_alloc | apply pw_below_drewN | apply below_drew1 | refine below_set ?_ GE220.out) | exact HB.out)⟩
           ·rw [if_neg c18] at H
            have c18b0 : decide (0 ≤ t223) = false := decide_eq_false c18
            clear c18
            have H' := Aside0.mk H
            clear H
            have p219 : 0 ≤ (x7_1 : Int) := of_decide_eq_true (by assumption)
            have q219 : x7_1 < (l0.length : Int) := of_decide_eq_true (by assumption)
            obtain ⟨ad219, e219, hx219_0, hx219_1, hx219_2⟩ := at_T50 HR0.out x7_1 p219 q219
            cases e219
            replace hx219_0 := (HB.out.cell (World.block_lt_of_cell? w _ hx219_0)).trans hx219_0
            replace hx219_1 := (HB.out.cell (World.block_lt_of_cell? w _ hx219_1)).trans hx219_1
            replace hx219_2 := (HB.out.cell (World.block_lt_of_cell? w _ hx219_2)).trans hx219_2
            replace p219 := eq_true p219
            replace q219 := eq_true q219
            try go_wp2_with (first | ((with_reducible refine gate_dst (N := 4) rfl ?_); refine box_event ?hg (N := 4) ?hd (cs := #[.int .i64 0, .int .u64 0, .int .i64 0]) (t := 50) ?hr ?_; (case hd => rfl); (case hg => rfl); (case hr => first | (go_simp; done) | (go_simp; rfl)); intro gb220 hg w25 hbox hb; have n1_ := Aside0.mk (hbox); have n2_ := Aside0.mk ((by rw [hg]; exact (below_size (bn HB)) : w.heap.size ≤ gb220)); have n3_ := Aside0.mk ((by rw [hg]; exact (below_size (bn HB)) : w.heap.size ≤ gb220)); replace HB := bb HB hb; have BK220 := n1_; have GW220 := n2_; have GE220 := n3_; clear n1_ n2_ n3_; clear hb hbox hg; have hcz26_0 : w25.cell? ⟨gb220, 0, none⟩ = some (.int .i64 0) := (blk_cell BK220.out 0).trans rfl; have hcz26_1 : w25.cell? ⟨gb220, 1, none⟩ = some (.int .u64 0) := (blk_cell BK220.out 1).trans rfl; have hcz26_2 : w25.cell? ⟨gb220, 2, none⟩ = some (.int .i64 0) := (blk_cell BK220.out 2).trans rfl; have hfz26_0 := blk_frozen BK220.out 0; have hfz26_1 := blk_frozen BK220.out 1; have hfz26_2 := blk_frozen BK220.out 2))
            have n0_ : Aside0 ((((w25.setCell ⟨gb220, 0, none⟩ (.int .i64 ((rd_T50 l0 x7_1).f0))).setCell ⟨gb220, 1, none⟩ (.int .u64 ((rd_T50 l0 x7_1).f1))).setCell ⟨gb220, 2, none⟩ (.int .i64 ((rd_T50 l0 x7_1).f2))).heap[gb220]? = some (.cells #[.int .i64 ((rd_T50 l0 x7_1).f0), .int .u64 ((rd_T50 l0 x7_1).f1), .int .i64 ((rd_T50 l0 x7_1).f2)] 50 (0, 0))) := ⟨by (with_reducible repeat (first | refine blk_drewN ?_ _ | refine blk_drew ?_ | refine blk_alloc ?_ _)); refine blk_put (cs := #[.int .i64 ((rd_T50 l0 x7_1).f0), .int .u64 ((rd_T50 l0 x7_1).f1), .int .i64 0]) ?_ 2 _ rfl; (with_reducible repeat (first | refine blk_drewN ?_ _ | refine blk_drew ?_ | refine blk_alloc ?_ _)); refine blk_put (cs := #[.int .i64 ((rd_T50 l0 x7_1).f0), .int .u64 0, .int .i64 0]) ?_ 1 _ rfl; (with_reducible repeat (first | refine blk_drewN ?_ _ | refine blk_drew ?_ | refine blk_alloc ?_ _)); refine blk_put (cs := #[.int .i64 0, .int .u64 0, .int .i64 0]) ?_ 0 _ rfl; (with_reducible repeat (first | refine blk_drewN ?_ _ | refine blk_drew ?_ | refine blk_alloc ?_ _)); exact BK220.out⟩
            have n1_ : Aside0 (Below w.heap.size w (((w25.setCell ⟨gb220, 0, none⟩ (.int .i64 ((rd_T50 l0 x7_1).f0))).setCell ⟨gb220, 1, none⟩ (.int .u64 ((rd_T50 l0 x7_1).f1))).setCell ⟨gb220, 2, none⟩ (.int .i64 ((rd_T50 l0 x7_1).f2)))) := ⟨by repeat (first | (with_reducible first | exact HB.out | apply below_alloc | apply pw_below_drewN | apply below_drew1 | refine below_set ?_ GE220.out) | exact HB.out)⟩
            (try clear BK220)
            (try clear HB)
            generalize (((w25.setCell ⟨gb220, 0, none⟩ (.int .i64 ((rd_T50 l0 x7_1).f0))).setCell ⟨gb220, 1, none⟩ (.int .u64 ((rd_T50 l0 x7_1).f1))).setCell ⟨gb220, 2, none⟩ (.int .i64 ((rd_T50 l0 x7_1).f2))) = w27 at n0_ n1_ ⊢
            have BK220 := n0_
            have HB := n1_
            clear n0_ n1_
            have n0_ := Aside0.mk (blk_drew BK220.out)
            have n1_ := Aside0.mk (below_drew1 HB.out)
            clear BK220
            clear HB
            have BK220 := n0_
            have HB := n1_
            clear n0_ n1_
            have p222 : 0 ≤ ((ji14) : Int) := of_decide_eq_true (by assumption)
            have q222 : (ji14) < (l0.length : Int) := of_decide_eq_true (by assumption)
            obtain ⟨ad222, e222, hx222_0, hx222_1, hx222_2⟩ := at_T50 HR0.out (ji14) p222 q222
            have hw222_2 := hx222_2
            have hw222_1 := hx222_1
            have hw222_0 := hx222_0
            obtain rfl : ad219 = ad222 := (by injection e222)
            replace hx222_0 := (HB.out.cell (World.block_lt_of_cell? w _ hx222_0)).trans hx222_0
            replace hx222_1 := (HB.out.cell (World.block_lt_of_cell? w _ hx222_1)).trans hx222_1
            replace hx222_2 := (HB.out.cell (World.block_lt_of_cell? w _ hx222_2)).trans hx222_2
            replace p222 := eq_true p222
            replace q222 := eq_true q222
            refine start_ (n := 22) (S := fun w' => w'.cell? ⟨gb220, 0, none⟩ = some (.int .i64 ((rd_T50 l0 x7_1).f0)) ∧ w'.cell? ⟨gb220, 1, none⟩ = some (.int .u64 ((rd_T50 l0 x7_1).f1)) ∧ w'.cell? ⟨gb220, 2, none⟩ = some (.int .i64 ((rd_T50 l0 x7_1).f2)) ∧ w'.cell? (ad219.add (((ji14)).toNat * 3)) = some (.int .i64 ((rd_T50 l0 (ji14)).f0)) ∧ w'.cell? ⟨(ad219.add (((ji14)).toNat * 3)).block, (ad219.add (((ji14)).toNat * 3)).off + 1, none⟩ = some (.int .u64 ((rd_T50 l0 (ji14)).f1)) ∧ w'.cell? ⟨(ad219.add (((ji14)).toNat * 3)).block, (ad219.add (((ji14)).toNat * 3)).off + 2, none⟩ = some (.int .i64 ((rd_T50 l0 (ji14)).f2))) (ds := []) (mk_ 0 22) (by kernel_rfl) rfl rfl ⟨(blk_cell BK220.out 0).trans rfl, (blk_cell BK220.out 1).trans rfl, (blk_cell BK220.out 2).trans rfl, ((HB.out.cell (World.block_lt_of_cell? w _ hw222_0)).trans hw222_0), ((HB.out.cell (World.block_lt_of_cell? w _ hw222_1)).trans hw222_1), ((HB.out.cell (World.block_lt_of_cell? w _ hw222_2)).trans hw222_2)⟩ (fun hHeld => ?_); refine with_tabW batch_Right.tab4 batch_Right.bits4 (fun HT_ HW_ => ?_)
            generalize w27.drew = w28 at BK220 HB hx222_0 hx222_1 hx222_2 hHeld ⊢
            refine tv_ 0 12 (mk_ 1 21) HT_ HW_ hHeld (hy := by rintro w' ⟨s0, s1, s2, s3, s4, s5⟩; go_simp; with_reducible rfl) (h := ?_)
            refine one_ (i := 1) (N := some 13) (mk_ 2 20) rfl rfl (one_of HT_.out (by kernel_rfl)) (by decide) (fun K hK => ?_)
            refine goes_ Try.func48 (by kernel_rfl) rfl #[.agg #[.int .i64 ((rd_T50 l0 x7_1).f0), .int .u64 ((rd_T50 l0 x7_1).f1), .int .i64 ((rd_T50 l0 x7_1).f2)]] (by rfl) rfl rfl (by (try simp only [List.map_toArray, List.map_cons, List.map_nil]); first | done | rfl | (simp only [List.length_drop, List.length_take]; rfl)) ?_
            with_reducible refine (batch_wrong.calls k1 ((rd_T50 l0 x7_1).f0) ((rd_T50 l0 x7_1).f1) ((rd_T50 l0 x7_1).f2) t221 _ A5.out).mono ?_
            rintro e w29 ⟨rfl, hb⟩
            refine ⟨_, rfl, ?_⟩
            have n0_ := Aside0.mk (blk_below (g := gb220) (o := .cells #[.int .i64 ((rd_T50 l0 x7_1).f0), .int .u64 ((rd_T50 l0 x7_1).f1), .int .i64 ((rd_T50 l0 x7_1).f2)] 50 (0, 0)) (by (with_reducible repeat (first | refine blk_drewN ?_ _ | refine blk_drew ?_ | refine blk_alloc ?_ _)); exact BK220.out) hb)
            have n1_ := Aside0.mk (below_step (by repeat (first | (with_reducible first | exact HB.out | apply below_alloc | apply pw_below_drewN | apply below_drew1 | refine below_set ?_ GE220.out) | exact HB.out)) hb)
            clear BK220
            clear HB
            have BK220 := n0_
            have HB := n1_
            clear n0_ n1_
            (try clear hb)
            (try clear hb2)
            (try clear hk)
            (try clear hi)
            refine hK.out _ _ ⟨(blk_cell BK220.out 0).trans rfl, (blk_cell BK220.out 1).trans rfl, (blk_cell BK220.out 2).trans rfl, ((HB.out.cell (World.block_lt_of_cell? w _ hw222_0)).trans hw222_0), ((HB.out.cell (World.block_lt_of_cell? w _ hw222_1)).trans hw222_1), ((HB.out.cell (World.block_lt_of_cell? w _ hw222_2)).trans hw222_2)⟩ (fun hHeld => ?_)
            clear hK K
            refine norm_ (a' := ?_) ?_ ?_
            rotate_left
            ·show Act.put _ (some 13) _ = _
             simp only [Act.put, List.setIfInBounds_toArray, List.set_cons_zero, List.set_cons_succ, i64_w, i32_w]
             rfl
            refine pv_ 2 14 (mk_ 3 19) HT_ ?_
            refine pv_ 3 15 (mk_ 4 18) HT_ ?_
            refine pv_ 4 16 (mk_ 5 17) HT_ ?_
            refine tv_ 5 17 (mk_ 6 16) HT_ HW_ hHeld (hy := by rintro w' ⟨s0, s1, s2, s3, s4, s5⟩; go_simp; with_reducible rfl) (h := ?_)
            refine pv_ 6 18 (mk_ 7 15) HT_ ?_
            refine pv_ 7 19 (mk_ 8 14) HT_ ?_
            refine pv_ 8 20 (mk_ 9 13) HT_ ?_
            refine pv_ 9 21 (mk_ 10 12) HT_ ?_
            refine pv_ 10 22 (mk_ 11 11) HT_ ?_
            refine pv_ 11 23 (mk_ 12 10) HT_ ?_
            refine pv_ 12 24 (mk_ 13 9) HT_ ?_
            refine pv_ 13 25 (mk_ 14 8) HT_ ?_
            refine pv_ 14 26 (mk_ 15 7) HT_ ?_
            refine pv_ 15 27 (mk_ 16 6) HT_ ?_
            refine tv_ 16 28 (mk_ 17 5) HT_ HW_ hHeld (hy := by rintro w' ⟨s0, s1, s2, s3, s4, s5⟩; go_simp; with_reducible rfl) (h := ?_)
            refine tv_ 17 29 (mk_ 18 4) HT_ HW_ hHeld (hy := by rintro w' ⟨s0, s1, s2, s3, s4, s5⟩; go_simp; with_reducible rfl) (h := ?_)
            refine one_ (i := 18) (N := some 30) (mk_ 19 3) rfl rfl (one_of HT_.out (by kernel_rfl)) (by decide) (fun K hK => ?_)
            refine goes_ Try.func53 (by kernel_rfl) rfl #[.agg #[.int .i64 ((rd_T50 l0 (ji14)).f0), .int .u64 ((rd_T50 l0 (ji14)).f1), .int .i64 ((rd_T50 l0 (ji14)).f2)], .agg #[.int .i64 ((rd_T50 l0 x7_1).f0), .int .u64 ((rd_T50 l0 x7_1).f1), .int .i64 ((rd_T50 l0 x7_1).f2)]] (by rfl) rfl rfl (by (try simp only [List.map_toArray, List.map_cons, List.map_nil]); first | done | (simp only [hji14]; rfl) | rfl | (simp only [List.length_drop, List.length_take]; rfl)) ?_
            with_reducible refine (batch_order.calls k1 ((rd_T50 l0 (ji14)).f0) ((rd_T50 l0 (ji14)).f1) ((rd_T50 l0 (ji14)).f2) ((rd_T50 l0 x7_1).f0) ((rd_T50 l0 x7_1).f1) ((rd_T50 l0 x7_1).f2) t223 _ A17.out).mono ?_
            rintro e w30 ⟨rfl, hb⟩
            refine ⟨_, rfl, ?_⟩
            have n0_ := Aside0.mk (blk_below (g := gb220) (o := .cells #[.int .i64 ((rd_T50 l0 x7_1).f0), .int .u64 ((rd_T50 l0 x7_1).f1), .int .i64 ((rd_T50 l0 x7_1).f2)] 50 (0, 0)) (by (with_reducible repeat (first | refine blk_drewN ?_ _ | refine blk_drew ?_ | refine blk_alloc ?_ _)); exact BK220.out) hb)
            have n1_ := Aside0.mk (below_step (by repeat (first | (with_reducible first | exact HB.out | apply below_alloc | apply pw_below_drewN | apply below_drew1 | refine below_set ?_ GE220.out) | exact HB.out)) hb)
            clear BK220
            clear HB
            have BK220 := n0_
            have HB := n1_
            clear n0_ n1_
            (try clear hb)
            (try clear hb2)
            (try clear hk)
            (try clear hi)
            refine hK.out _ _ ⟨(blk_cell BK220.out 0).trans rfl, (blk_cell BK220.out 1).trans rfl, (blk_cell BK220.out 2).trans rfl, ((HB.out.cell (World.block_lt_of_cell? w _ hw222_0)).trans hw222_0), ((HB.out.cell (World.block_lt_of_cell? w _ hw222_1)).trans hw222_1), ((HB.out.cell (World.block_lt_of_cell? w _ hw222_2)).trans hw222_2)⟩ (fun hHeld => ?_)
            clear hK K
            refine norm_ (a' := ?_) ?_ ?_
            rotate_left
            ·show Act.put _ (some 30) _ = _
             simp only [Act.put, List.setIfInBounds_toArray, List.set_cons_zero, List.set_cons_succ, i64_w, i32_w]
             rfl
            refine pv_ 19 31 (mk_ 20 2) HT_ ?_
            refine pv_ 20 32 (mk_ 21 1) HT_ ?_
            refine pv_ 21 33 (mk_ 22 0) HT_ ?_
            refine done_ (done_of HT_.out (by kernel_rfl)) ?_
            try go_wp2
            go_roundg k1
            case measure => have := HK1.out; omega
            case rel => exact ⟨(wrap64 (x7_1 + 1)), (by first | rfl | (simp; done) | (simp [*]; done)), H', ⟨by have := HK1.out; omega⟩, ⟨by repeat (first | (with_reducible first | exact HB.out | apply below_alloc | apply pw_below_drewN | apply below_drew1 | refine below_set ?_ GE220.out) | exact HB.out)⟩⟩
          ·rw [if_neg c16] at H
           exact absurd H (by simp)
         ·rw [if_neg c15] at H
          exact absurd H (by simp)
        ·rw [if_neg c13] at H
         have c13b0 : decide (0 < x7_1) = false := decide_eq_false c13
         clear c13
         have H' := Aside0.mk H
         clear H
         have p219 : 0 ≤ (x7_1 : Int) := of_decide_eq_true (by assumption)
         have q219 : x7_1 < (l0.length : Int) := of_decide_eq_true (by assumption)
         obtain ⟨ad219, e219, hx219_0, hx219_1, hx219_2⟩ := at_T50 HR0.out x7_1 p219 q219
         cases e219
         replace hx219_0 := (HB.out.cell (World.block_lt_of_cell? w _ hx219_0)).trans hx219_0
         replace hx219_1 := (HB.out.cell (World.block_lt_of_cell? w _ hx219_1)).trans hx219_1
         replace hx219_2 := (HB.out.cell (World.block_lt_of_cell? w _ hx219_2)).trans hx219_2
         replace p219 := eq_true p219
         replace q219 := eq_true q219
         try go_wp2_with (first | ((with_reducible refine gate_dst (N := 4) rfl ?_); refine box_event ?hg (N := 4) ?hd (cs := #[.int .i64 0, .int .u64 0, .int .i64 0]) (t := 50) ?hr ?_; (case hd => rfl); (case hg => rfl); (case hr => first | (go_simp; done) | (go_simp; rfl)); intro gb220 hg w31 hbox hb; have n1_ := Aside0.mk (hbox); have n2_ := Aside0.mk ((by rw [hg]; exact (below_size (bn HB)) : w.heap.size ≤ gb220)); have n3_ := Aside0.mk ((by rw [hg]; exact (below_size (bn HB)) : w.heap.size ≤ gb220)); replace HB := bb HB hb; have BK220 := n1_; have GW220 := n2_; have GE220 := n3_; clear n1_ n2_ n3_; clear hb hbox hg; have hcz32_0 : w31.cell? ⟨gb220, 0, none⟩ = some (.int .i64 0) := (blk_cell BK220.out 0).trans rfl; have hcz32_1 : w31.cell? ⟨gb220, 1, none⟩ = some (.int .u64 0) := (blk_cell BK220.out 1).trans rfl; have hcz32_2 : w31.cell? ⟨gb220, 2, none⟩ = some (.int .i64 0) := (blk_cell BK220.out 2).trans rfl; have hfz32_0 := blk_frozen BK220.out 0; have hfz32_1 := blk_frozen BK220.out 1; have hfz32_2 := blk_frozen BK220.out 2))
         have n0_ : Aside0 ((((w31.setCell ⟨gb220, 0, none⟩ (.int .i64 ((rd_T50 l0 x7_1).f0))).setCell ⟨gb220, 1, none⟩ (.int .u64 ((rd_T50 l0 x7_1).f1))).setCell ⟨gb220, 2, none⟩ (.int .i64 ((rd_T50 l0 x7_1).f2))).heap[gb220]? = some (.cells #[.int .i64 ((rd_T50 l0 x7_1).f0), .int .u64 ((rd_T50 l0 x7_1).f1), .int .i64 ((rd_T50 l0 x7_1).f2)] 50 (0, 0))) := ⟨by (with_reducible repeat (first | refine blk_drewN ?_ _ | refine blk_drew ?_ | refine blk_alloc ?_ _)); refine blk_put (cs := #[.int .i64 ((rd_T50 l0 x7_1).f0), .int .u64 ((rd_T50 l0 x7_1).f1), .int .i64 0]) ?_ 2 _ rfl; (with_reducible repeat (first | refine blk_drewN ?_ _ | refine blk_drew ?_ | refine blk_alloc ?_ _)); refine blk_put (cs := #[.int .i64 ((rd_T50 l0 x7_1).f0), .int .u64 0, .int .i64 0]) ?_ 1 _ rfl; (with_reducible repeat (first | refine blk_drewN ?_ _ | refine blk_drew ?_ | refine blk_alloc ?_ _)); refine blk_put (cs := #[.int .i64 0, .int .u64 0, .int .i64 0]) ?_ 0 _ rfl; (with_reducible repeat (first | refine blk_drewN ?_ _ | refine blk_drew ?_ | refine blk_alloc ?_ _)); exact BK220.out⟩
         have n1_ : Aside0 (Below w.heap.size w (((w31.setCell ⟨gb220, 0, none⟩ (.int .i64 ((rd_T50 l0 x7_1).f0))).setCell ⟨gb220, 1, none⟩ (.int .u64 ((rd_T50 l0 x7_1).f1))).setCell ⟨gb220, 2, none⟩ (.int .i64 ((rd_T50 l0 x7_1).f2)))) := ⟨by repeat (first | (with_reducible first | exact HB.out | apply below_alloc | apply pw_below_drewN | apply below_drew1 | refine below_set ?_ GE220.out) | exact HB.out)⟩
         (try clear BK220)
         (try clear HB)
         generalize (((w31.setCell ⟨gb220, 0, none⟩ (.int .i64 ((rd_T50 l0 x7_1).f0))).setCell ⟨gb220, 1, none⟩ (.int .u64 ((rd_T50 l0 x7_1).f1))).setCell ⟨gb220, 2, none⟩ (.int .i64 ((rd_T50 l0 x7_1).f2))) = w33 at n0_ n1_ ⊢
         have BK220 := n0_
         have HB := n1_
         clear n0_ n1_
         have n0_ := Aside0.mk (blk_drew BK220.out)
         have n1_ := Aside0.mk (below_drew1 HB.out)
         clear BK220
         clear HB
         have BK220 := n0_
         have HB := n1_
         clear n0_ n1_
         refine start_ (n := 22) (S := fun w' => w'.cell? ⟨gb220, 0, none⟩ = some (.int .i64 ((rd_T50 l0 x7_1).f0)) ∧ w'.cell? ⟨gb220, 1, none⟩ = some (.int .u64 ((rd_T50 l0 x7_1).f1)) ∧ w'.cell? ⟨gb220, 2, none⟩ = some (.int .i64 ((rd_T50 l0 x7_1).f2))) (ds := []) (mk_ 0 22) (by kernel_rfl) rfl rfl ⟨(blk_cell BK220.out 0).trans rfl, (blk_cell BK220.out 1).trans rfl, (blk_cell BK220.out 2).trans rfl⟩ (fun hHeld => ?_); refine with_tabW batch_Right.tab4 batch_Right.bits4 (fun HT_ HW_ => ?_)
         generalize w33.drew = w34 at BK220 HB hHeld ⊢
         refine tv_ 0 12 (mk_ 1 21) HT_ HW_ hHeld (hy := by rintro w' ⟨s0, s1, s2⟩; go_simp; with_reducible rfl) (h := ?_)
         refine one_ (i := 1) (N := some 13) (mk_ 2 20) rfl rfl (one_of HT_.out (by kernel_rfl)) (by decide) (fun K hK => ?_)
         refine goes_ Try.func48 (by kernel_rfl) rfl #[.agg #[.int .i64 ((rd_T50 l0 x7_1).f0), .int .u64 ((rd_T50 l0 x7_1).f1), .int .i64 ((rd_T50 l0 x7_1).f2)]] (by rfl) rfl rfl (by (try simp only [List.map_toArray, List.map_cons, List.map_nil]); first | done | rfl | (simp only [List.length_drop, List.length_take]; rfl)) ?_
         with_reducible refine (batch_wrong.calls k1 ((rd_T50 l0 x7_1).f0) ((rd_T50 l0 x7_1).f1) ((rd_T50 l0 x7_1).f2) t221 _ A5.out).mono ?_
         rintro e w35 ⟨rfl, hb⟩
         refine ⟨_, rfl, ?_⟩
         have n0_ := Aside0.mk (blk_below (g := gb220) (o := .cells #[.int .i64 ((rd_T50 l0 x7_1).f0), .int .u64 ((rd_T50 l0 x7_1).f1), .int .i64 ((rd_T50 l0 x7_1).f2)] 50 (0, 0)) (by (with_reducible repeat (first | refine blk_drewN ?_ _ | refine blk_drew ?_ | refine blk_alloc ?_ _)); exact BK220.out) hb)
         have n1_ := Aside0.mk (below_step (by repeat (first | (with_reducible first | exact HB.out | apply below_alloc | apply pw_below_drewN | apply below_drew1 | refine below_set ?_ GE220.out) | exact HB.out)) hb)
         clear BK220
         clear HB
         have BK220 := n0_
         have HB := n1_
         clear n0_ n1_
         (try clear hb)
         (try clear hb2)
         (try clear hk)
         (try clear hi)
         refine hK.out _ _ ⟨(blk_cell BK220.out 0).trans rfl, (blk_cell BK220.out 1).trans rfl, (blk_cell BK220.out 2).trans rfl⟩ (fun hHeld => ?_)
         clear hK K
         refine norm_ (a' := ?_) ?_ ?_
         rotate_left
         ·show Act.put _ (some 13) _ = _
          simp only [Act.put, List.setIfInBounds_toArray, List.set_cons_zero, List.set_cons_succ, i64_w, i32_w]
          rfl
         refine pv_ 2 14 (mk_ 3 19) HT_ ?_
         refine pv_ 3 15 (mk_ 4 18) HT_ ?_
         refine pv_ 4 16 (mk_ 5 17) HT_ ?_
         refine tv_ 5 17 (mk_ 6 16) HT_ HW_ hHeld (hy := by rintro w' ⟨s0, s1, s2⟩; go_simp; with_reducible rfl) (h := ?_)
         refine pv_ 6 18 (mk_ 7 15) HT_ ?_
         refine pv_ 7 19 (mk_ 8 14) HT_ ?_
         refine pv_ 8 20 (mk_ 9 13) HT_ ?_
         refine pv_ 9 21 (mk_ 10 12) HT_ ?_
         refine pv_ 10 22 (mk_ 11 11) HT_ ?_
         refine pv_ 11 23 (mk_ 12 10) HT_ ?_
         refine pu_ 12 24 (mk_ 13 9) HT_ ?_
         refine pu_ 13 25 (mk_ 14 8) HT_ ?_
         refine pu_ 14 26 (mk_ 15 7) HT_ ?_
         refine pu_ 15 27 (mk_ 16 6) HT_ ?_
         refine pu_ 16 28 (mk_ 17 5) HT_ ?_
         refine pu_ 17 29 (mk_ 18 4) HT_ ?_
         refine pu_ 18 30 (mk_ 19 3) HT_ ?_
         refine pu_ 19 31 (mk_ 20 2) HT_ ?_
         refine pv_ 20 32 (mk_ 21 1) HT_ ?_
         refine pv_ 21 33 (mk_ 22 0) HT_ ?_
         refine done_ (done_of HT_.out (by kernel_rfl)) ?_
         try go_wp2
         go_roundg k1
         case measure => have := HK1.out; omega
         case rel => exact ⟨(wrap64 (x7_1 + 1)), (by first | rfl | (simp; done) | (simp [*]; done)), H', ⟨by have := HK1.out; omega⟩, ⟨by repeat (first | (with_reducible first | exact HB.out | apply below_alloc | apply pw_below_drewN | apply below_drew1 | refine below_set ?_ GE220.out) | exact HB.out)⟩⟩
      ·rw [if_neg c6] at H
       have c6b0 : (t221 == 0) = false := beq_eq_false_iff_ne.mpr c6
       have c6b1 : (t221 != 0) = true := bne_iff_ne.mpr c6
       obtain rfl := Option.some.inj H
       have p219 : 0 ≤ (x7_1 : Int) := of_decide_eq_true (by assumption)
       have q219 : x7_1 < (l0.length : Int) := of_decide_eq_true (by assumption)
       obtain ⟨ad219, e219, hx219_0, hx219_1, hx219_2⟩ := at_T50 HR0.out x7_1 p219 q219
       cases e219
       replace hx219_0 := (HB.out.cell (World.block_lt_of_cell? w _ hx219_0)).trans hx219_0
       replace hx219_1 := (HB.out.cell (World.block_lt_of_cell? w _ hx219_1)).trans hx219_1
       replace hx219_2 := (HB.out.cell (World.block_lt_of_cell? w _ hx219_2)).trans hx219_2
       replace p219 := eq_true p219
       replace q219 := eq_true q219
       try go_wp2_with (first | ((with_reducible refine gate_dst (N := 4) rfl ?_); refine box_event ?hg (N := 4) ?hd (cs := #[.int .i64 0, .int .u64 0, .int .i64 0]) (t := 50) ?hr ?_; (case hd => rfl); (case hg => rfl); (case hr => first | (go_simp; done) | (go_simp; rfl)); intro gb220 hg w36 hbox hb; have n1_ := Aside0.mk (hbox); have n2_ := Aside0.mk ((by rw [hg]; exact (below_size (bn HB)) : w.heap.size ≤ gb220)); have n3_ := Aside0.mk ((by rw [hg]; exact (below_size (bn HB)) : w.heap.size ≤ gb220)); replace HB := bb HB hb; have BK220 := n1_; have GW220 := n2_; have GE220 := n3_; clear n1_ n2_ n3_; clear hb hbox hg; have hcz37_0 : w36.cell? ⟨gb220, 0, none⟩ = some (.int .i64 0) := (blk_cell BK220.out 0).trans rfl; have hcz37_1 : w36.cell? ⟨gb220, 1, none⟩ = some (.int .u64 0) := (blk_cell BK220.out 1).trans rfl; have hcz37_2 : w36.cell? ⟨gb220, 2, none⟩ = some (.int .i64 0) := (blk_cell BK220.out 2).trans rfl; have hfz37_0 := blk_frozen BK220.out 0; have hfz37_1 := blk_frozen BK220.out 1; have hfz37_2 := blk_frozen BK220.out 2))
       have n0_ : Aside0 ((((w36.setCell ⟨gb220, 0, none⟩ (.int .i64 ((rd_T50 l0 x7_1).f0))).setCell ⟨gb220, 1, none⟩ (.int .u64 ((rd_T50 l0 x7_1).f1))).setCell ⟨gb220, 2, none⟩ (.int .i64 ((rd_T50 l0 x7_1).f2))).heap[gb220]? = some (.cells #[.int .i64 ((rd_T50 l0 x7_1).f0), .int .u64 ((rd_T50 l0 x7_1).f1), .int .i64 ((rd_T50 l0 x7_1).f2)] 50 (0, 0))) := ⟨by (with_reducible repeat (first | refine blk_drewN ?_ _ | refine blk_drew ?_ | refine blk_alloc ?_ _)); refine blk_put (cs := #[.int .i64 ((rd_T50 l0 x7_1).f0), .int .u64 ((rd_T50 l0 x7_1).f1), .int .i64 0]) ?_ 2 _ rfl; (with_reducible repeat (first | refine blk_drewN ?_ _ | refine blk_drew ?_ | refine blk_alloc ?_ _)); refine blk_put (cs := #[.int .i64 ((rd_T50 l0 x7_1).f0), .int .u64 0, .int .i64 0]) ?_ 1 _ rfl; (with_reducible repeat (first | refine blk_drewN ?_ _ | refine blk_drew ?_ | refine blk_alloc ?_ _)); refine blk_put (cs := #[.int .i64 0, .int .u64 0, .int .i64 0]) ?_ 0 _ rfl; (with_reducible repeat (first | refine blk_drewN ?_ _ | refine blk_drew ?_ | refine blk_alloc ?_ _)); exact BK220.out⟩
       have n1_ : Aside0 (Below w.heap.size w (((w36.setCell ⟨gb220, 0, none⟩ (.int .i64 ((rd_T50 l0 x7_1).f0))).setCell ⟨gb220, 1, none⟩ (.int .u64 ((rd_T50 l0 x7_1).f1))).setCell ⟨gb220, 2, none⟩ (.int .i64 ((rd_T50 l0 x7_1).f2)))) := ⟨by repeat (first | (with_reducible first | exact HB.out | apply below_alloc | apply pw_below_drewN | apply below_drew1 | refine below_set ?_ GE220.out) | exact HB.out)⟩
       (try clear BK220)
       (try clear HB)
       generalize (((w36.setCell ⟨gb220, 0, none⟩ (.int .i64 ((rd_T50 l0 x7_1).f0))).setCell ⟨gb220, 1, none⟩ (.int .u64 ((rd_T50 l0 x7_1).f1))).setCell ⟨gb220, 2, none⟩ (.int .i64 ((rd_T50 l0 x7_1).f2))) = w38 at n0_ n1_ ⊢
       have BK220 := n0_
       have HB := n1_
       clear n0_ n1_
       have n0_ := Aside0.mk (blk_drew BK220.out)
       have n1_ := Aside0.mk (below_drew1 HB.out)
       clear BK220
       clear HB
       have BK220 := n0_
       have HB := n1_
       clear n0_ n1_
       refine start_ (n := 22) (S := fun w' => w'.cell? ⟨gb220, 0, none⟩ = some (.int .i64 ((rd_T50 l0 x7_1).f0)) ∧ w'.cell? ⟨gb220, 1, none⟩ = some (.int .u64 ((rd_T50 l0 x7_1).f1)) ∧ w'.cell? ⟨gb220, 2, none⟩ = some (.int .i64 ((rd_T50 l0 x7_1).f2))) (ds := []) (mk_ 0 22) (by kernel_rfl) rfl rfl ⟨(blk_cell BK220.out 0).trans rfl, (blk_cell BK220.out 1).trans rfl, (blk_cell BK220.out 2).trans rfl⟩ (fun hHeld => ?_); refine with_tabW batch_Right.tab4 batch_Right.bits4 (fun HT_ HW_ => ?_)
       generalize w38.drew = w39 at BK220 HB hHeld ⊢
       refine tv_ 0 12 (mk_ 1 21) HT_ HW_ hHeld (hy := by rintro w' ⟨s0, s1, s2⟩; go_simp; with_reducible rfl) (h := ?_)
       refine one_ (i := 1) (N := some 13) (mk_ 2 20) rfl rfl (one_of HT_.out (by kernel_rfl)) (by decide) (fun K hK => ?_)
       refine goes_ Try.func48 (by kernel_rfl) rfl #[.agg #[.int .i64 ((rd_T50 l0 x7_1).f0), .int .u64 ((rd_T50 l0 x7_1).f1), .int .i64 ((rd_T50 l0 x7_1).f2)]] (by rfl) rfl rfl (by (try simp only [List.map_toArray, List.map_cons, List.map_nil]); first | done | rfl | (simp only [List.length_drop, List.length_take]; rfl)) ?_
       with_reducible refine (batch_wrong.calls k1 ((rd_T50 l0 x7_1).f0) ((rd_T50 l0 x7_1).f1) ((rd_T50 l0 x7_1).f2) t221 _ A5.out).mono ?_
       rintro e w40 ⟨rfl, hb⟩
       refine ⟨_, rfl, ?_⟩
       have n0_ := Aside0.mk (blk_below (g := gb220) (o := .cells #[.int .i64 ((rd_T50 l0 x7_1).f0), .int .u64 ((rd_T50 l0 x7_1).f1), .int .i64 ((rd_T50 l0 x7_1).f2)] 50 (0, 0)) (by (with_reducible repeat (first | refine blk_drewN ?_ _ | refine blk_drew ?_ | refine blk_alloc ?_ _)); exact BK220.out) hb)
       have n1_ := Aside0.mk (below_step (by repeat (first | (with_reducible first | exact HB.out | apply below_alloc | apply pw_below_drewN | apply below_drew1 | refine below_set ?_ GE220.out) | exact HB.out)) hb)
       clear BK220
       clear HB
       have BK220 := n0_
       have HB := n1_
       clear n0_ n1_
       (try clear hb)
       (try clear hb2)
       (try clear hk)
       (try clear hi)
       refine hK.out _ _ ⟨(blk_cell BK220.out 0).trans rfl, (blk_cell BK220.out 1).trans rfl, (blk_cell BK220.out 2).trans rfl⟩ (fun hHeld => ?_)
       clear hK K
       refine norm_ (a' := ?_) ?_ ?_
       rotate_left
       ·show Act.put _ (some 13) _ = _
        simp only [Act.put, List.setIfInBounds_toArray, List.set_cons_zero, List.set_cons_succ, i64_w, i32_w]
        rfl
       refine pv_ 2 14 (mk_ 3 19) HT_ ?_
       refine pv_ 3 15 (mk_ 4 18) HT_ ?_
       refine pu_ 4 16 (mk_ 5 17) HT_ ?_
       refine pu_ 5 17 (mk_ 6 16) HT_ ?_
       refine pu_ 6 18 (mk_ 7 15) HT_ ?_
       refine pv_ 7 19 (mk_ 8 14) HT_ ?_
       refine pv_ 8 20 (mk_ 9 13) HT_ ?_
       refine pu_ 9 21 (mk_ 10 12) HT_ ?_
       refine pu_ 10 22 (mk_ 11 11) HT_ ?_
       refine pu_ 11 23 (mk_ 12 10) HT_ ?_
       refine pu_ 12 24 (mk_ 13 9) HT_ ?_
       refine pu_ 13 25 (mk_ 14 8) HT_ ?_
       refine pu_ 14 26 (mk_ 15 7) HT_ ?_
       refine pu_ 15 27 (mk_ 16 6) HT_ ?_
       refine pu_ 16 28 (mk_ 17 5) HT_ ?_
       refine pu_ 17 29 (mk_ 18 4) HT_ ?_
       refine pu_ 18 30 (mk_ 19 3) HT_ ?_
       refine pu_ 19 31 (mk_ 20 2) HT_ ?_
       refine pu_ 20 32 (mk_ 21 1) HT_ ?_
       refine pv_ 21 33 (mk_ 22 0) HT_ ?_
       refine done_ (done_of HT_.out (by kernel_rfl)) ?_
       try go_wp2
       go_ret
       exact ⟨by first | rfl | (simp [errW_none, errW_some] <;> rfl) | (simp [*, errW_none, errW_some] <;> rfl), by repeat (first | (with_reducible first | exact HB.out | apply below_alloc | apply pw_below_drewN | apply below_drew1 | refine below_set ?_ GE220.out) | exact HB.out)⟩
     ·rw [if_neg c4] at H
      exact absurd H (by simp)
    ·rw [if_neg c3] at H
     exact absurd H (by simp)
   ·rw [if_neg c2] at H
    have c2b0 : decide (x7_1 < (l0.length : Int)) = false := decide_eq_false c2
    clear c2
    obtain rfl := Option.some.inj H
    go_wp2
    go_ret
    exact ⟨by first | rfl | (simp [errW_none, errW_some] <;> rfl) | (simp [*, errW_none, errW_some] <;> rfl), by repeat (first | (with_reducible first | exact HB.out | apply below_alloc | apply pw_below_drewN | apply below_drew1) | exact HB.out)⟩
end Go.Proofs.Ytgeldmhgbnamcaa.P
end
section
namespace Go.Proofs.Ytgeldmhgbnamcaa.P
open Go.RowKit Go.Proofs.YtgeldmhgbnamcaaW.PrintWords Go.Proofs.YtgeldmhgbnamcaaW.PrintLast Go.Proofs.YtgeldmhgbnamcaaW.PrintMore
set_option linter.unusedVariables false
set_option linter.unusedSimpArgs false
section
variable {P : Program} {ops : Array Oper} {rest : List Oper} {o : Oper} {a : Act} {Q : Exit → Act → World → Prop} {W : World}
theorem goesTT_ {oi : Oper} {N : Option Tmp} {a : Act} {w : World} {K : Act → World → Prop} {f : FuncId} {fn : Func} {p : Operand} {ao : Array Operand} {ts : Array TypeId} (hf : P.funcs[f]? = some fn) (hname : (fn.name == "runtime.NumGoroutine") = false) (hb : fn.body.isSome = true) (args : Array Value)
  (hw : Region.wanted oi (yielded ops a.tmps) = true) (hN : oi.dst = N) (hop : oi.op = .call { callee := .value p, args := ao, argTypes := ts }) (hv : a.eval p = .func (.func f) #[] #[]) (hargs : ao.map a.eval = args)
  (h : Calls P f args w fun e w' => ∃ v, e = .returned v ∧ K (a.put N v) w') : if Region.wanted oi (yielded ops a.tmps) = true then Oper.wp P oi a w K Q else K (a.put N undef) w := by
 refine call_ f args hw hN ?_ h
 have he := enters_ hf hname hb args w
 unfold execOp
 simp [hop, resolve, hv, Deferred.ofValue, invoke, hargs, he]
end
end Go.Proofs.Ytgeldmhgbnamcaa.P
end
