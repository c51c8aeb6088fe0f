/- Walks and laws of several statements of this seat, joined into one text; no condition. -/
import Derived.Test.YtgeldmhgbnamcaaDoorProg
import Derived.WalkKit
import Derived.LaidEql
import Derived.Stop.Asserts
import Derived.RowKitTokens
import Derived.Below
import Derived.Deep.Draws
import Derived.Deep.AppendLies
import Derived.Maps.AppendAt
import Derived.OwnWalk
import Derived.Laws.BytesArg
import Derived.Laws.MakeOwn
import Derived.Laws.OwnMore
import Derived.Deep.OwnRows
import Derived.Tactics
import Derived.Lib.ConvBytes
import Derived.Laws.Slices
import Derived.KernelRfl
import Derived.RowKit3
import Derived.Deep.LoopGhost
import Derived.Deep.QuietTactic
import Derived.BigQuiet
import Derived.WideLaws
import Derived.Deep.DeepCutAuto
import Derived.Deep.CutBlock
import Derived.Deep.RegionHeld3
import Derived.Laws.Rows
import Derived.Lib.AppendStr
import Derived.ArgAppend
import Derived.Laws.IdiomCopy
import Derived.RowKit
import Derived.LoopTactic
import Derived.Elder7
import Derived.OrdersHeld
import Derived.Laws.BitsLemmas
import Derived.Laws.StructEq
import Derived.Lib.ItoaLen
import Derived.Lib.ParseIntB
import Derived.Shelf.Strconv.Itoa3
import Derived.Lib.AppendIntMem
import Derived.Laws.CopyOwn
import Derived.Deep.RegionLaw
import Derived.Outline
import Derived.IntWalk
import Derived.Test.YtgeldmhgbnamcaaDoorGXa0
import Derived.Test.YtgeldmhgbnamcaaDoorGXa1
import Derived.Test.YtgeldmhgbnamcaaDoorGXa2
import Derived.Test.YtgeldmhgbnamcaaDoorGXa9
import Derived.Test.YtgeldmhgbnamcaaDoorGXa3
import Derived.Test.YtgeldmhgbnamcaaDoorGXa4
import Derived.Test.YtgeldmhgbnamcaaDoorGXa5
import Derived.Test.YtgeldmhgbnamcaaDoorGXa6
import Derived.Test.YtgeldmhgbnamcaaDoorGXa7
import Derived.Test.YtgeldmhgbnamcaaDoorGXa8
section
namespace Go.Proofs.YtgeldmhgbnamcaaDoor.P
open Go.RowKit Go.Proofs.YtgeldmhgbnamcaaDoorW.PrintWords Go.Proofs.YtgeldmhgbnamcaaDoorW.PrintLast Go.Proofs.YtgeldmhgbnamcaaDoorW.PrintMore
set_option linter.unusedVariables false
set_option linter.unusedSimpArgs false
structure S41 where
 f0 : ByteArray
 f1 : Int
def z41 : S41 := ⟨(⟨#[]⟩ : ByteArray), (0 : Int)⟩
theorem info41 : (Tryd.prog.info? 41).map (fun i => (i.zero, i.size, i.bytes)) = some (some (.agg #[(.string ⟨#[]⟩), (.int .i64 0)]), 2, 24) := by kernel_rfl
def k41 : Kd S41 := Kd.iso (Kd.pair Kd.string (Kd.int .i64)) (fun x : S41 => (x.f0, x.f1))
theorem k41_open {w : World} {x : S41} {cs : List Value} (h : k41.K w x cs) : cs = [.string x.f0, .int .i64 x.f1] := by
 obtain ⟨_, _, rfl, rfl, rfl⟩ := h
 exact rfl
theorem k41_mkM (w : World) (base : Nat) (ok : Nat → Prop) (x : S41)  : k41.M w base ok x [.string x.f0, .int .i64 x.f1] := ⟨[.string x.f0], [.int .i64 x.f1], rfl, rfl, rfl⟩
def rd_T41 (xs : List S41) (i : Int) : S41 := xs.getD i.toNat z41
theorem at_T41 {w : World} {A : Option Addr} {n : Nat} {xs : List S41} (h : Kd.C k41 w A n xs) (i : Int) (h0 : 0 ≤ i) (h1 : i < n) : ∃ ad , A = some ad ∧ w.cell? (ad.add (i.toNat * 2)) = some (.string (rd_T41 xs i).f0) ∧ w.cell? ⟨(ad.add (i.toNat * 2)).block, (ad.add (i.toNat * 2)).off + 1, none⟩ = some (.int .i64 (rd_T41 xs i).f1) := by
 obtain ⟨ad, c, e, _, hK, hc0⟩ := Kd.C_get h z41 i h0 h1
 have hc : ∀ j u, c[j]? = some u → w.cell? (ad.add (i.toNat * 2 + j)) = some u := hc0
 obtain rfl := k41_open hK
 exact ⟨ad, e, hc 0 _ rfl, by rw [← add_field _ _ 1 (by omega)]; exact hc 1 _ rfl⟩
theorem e_assert100 (v : Value) (w : World) : (Instr.typeAssert (.iface 100 v) 31 100 true).run Tryd.prog w = .ok (.tuple #[v, .bool true]) w := by kernel_rfl
theorem e_assert33 (v : Value) (w : World) : (Instr.typeAssert (.iface 33 v) 31 100 true).run Tryd.prog w = .ok (.tuple #[.pointer none, .bool false]) w := by kernel_rfl
set_option maxHeartbeats 4000000 in
set_option maxRecDepth 100000 in
theorem Path_calls (ps : List (ByteArray × Int)) (v : Value) (k : Int) (W : World) (hE : ErrIs W ps v (.iface 33 (.int .i64 k))) (hl : ps.length ≤ 1000) :
  Calls Tryd.prog 24 #[v] W fun e w' => ∃ v', e = .returned v' ∧ Kd.R k41 41 w' W.heap.size (fun _ => True) v' (ps.map fun p => ⟨p.1, p.2⟩) ∧ Below W.heap.size W w' := by
 have HE := Aside0.mk hE
 have a100 := e_assert100
 have a33 := e_assert33
 clear hE
 go_enter Tryd.func24, Tryd.ntmps24
 go_wp2
 go_loopg [0, 3] (ps.length + 1) (fun kq v0 v3 wr => ∃ (qs : List (ByteArray × Int)) (acc : List S41), kq = qs.length + 1 ∧ Aside0 (ErrIs W qs v0 (.iface 33 (.int .i64 k)) ∧ Kd.R k41 41 wr W.heap.size (fun _ => True) v3 acc ∧ acc ++ qs.map (fun p => (⟨p.1, p.2⟩ : S41)) = ps.map (fun p => (⟨p.1, p.2⟩ : S41)) ∧ Below W.heap.size W wr))
 case atStart => exact ⟨ps, [], rfl, ⟨HE.out, Kd.R_nil _ _ _ _ _, by simp, Below.refl _ _⟩⟩
 case round =>
  obtain ⟨qs, acc, hq, HS⟩ := hrel
  obtain ⟨A3, c3, rfl⟩ := Kd.R_slice HS.out.2.1
  cases qs with
  | nil =>
   obtain rfl : _ = Value.iface 33 (.int .i64 k) := HS.out.1
   go_wp2
   go_ret
   exact ⟨_, rfl, by have := HS.out.2.2.1; rw [List.map_nil, List.append_nil] at this; rw [← this]; exact HS.out.2.1, HS.out.2.2.2⟩
  | cons p qs =>
   obtain ⟨b, vi, rfl, hb, hE⟩ := HS.out.1
   have hbk := blk_below hb HS.out.2.2.2
   have hx0 := blk_cell hbk 0
   have hx1 := blk_cell hbk 1
   have hx2 := blk_cell hbk 2
   simp only [List.getElem?_toArray, List.getElem?_cons_zero, List.getElem?_cons_succ] at hx0 hx1 hx2
   have HBK := Aside0.mk hbk
   have HBW := Aside0.mk hb
   have HN := Aside0.mk hE
   obtain ⟨u, x, rfl⟩ := hE.iface
   clear hE hb hbk
   have hlen : acc.length ≤ 1000 := by have := congrArg List.length HS.out.2.2.1; simp at this; omega
   go_wp2_with (first
    | ((with_reducible refine gate_builtin (b := .append) (xs := #[.tmp 14, .tmp 19]) rfl ?_); at_builtin; refine Kd.R_append k41 (w0 := W) W.heap.size rfl (.tmp 14) (.tmp 19) 38 41 (.agg #[(.string ⟨#[]⟩), (.int .i64 0)]) 24 rfl Tryd.underlying38 info41 rfl (by decide) (by omega) (.slice A3 acc.length c3) acc (⟨p.1, p.2⟩ : S41) [.string p.1, .int .i64 p.2] (fun _ => True) (fun _ => False) rfl rfl ?aP (fun _ hk => hk.elim) ?aF ?aO ?aB ?aS ?aL ?_; (case aP => exact k41_mkM _ _ _ (⟨p.1, p.2⟩ : S41)); (case aF => exact (fun _ _ => trivial)); (case aO => exact HS.out.2.1); (case aB => exact HS.out.2.2.2); (case aS => exact HS.out.2.2.2.size); (case aL => omega); intro v2 w2 ho hb hg hat; have HB2 := Aside0.mk hb; have HO2 := Aside0.mk ho; have hbk2 := blk_grown HBK.out hg (by intro e; exact absurd (Kd.R_base HS.out.2.1 b e.symm) (by have := blk_lt HBW.out; omega)); have hy0 := blk_cell hbk2 2; simp only [List.getElem?_toArray, List.getElem?_cons_zero, List.getElem?_cons_succ] at hy0; clear ho hb hg hat))
   go_roundg (qs.length + 1)
   case measure => rw [hq]; simp
   case rel => exact ⟨qs, acc ++ [⟨p.1, p.2⟩], rfl, ⟨HN.out, HO2.out, by have := HS.out.2.2.1; rw [← this]; simp, HB2.out⟩⟩
def itoaS (n : Int) : ByteArray := ⟨#[(48 + n.toNat).toUInt8]⟩
set_option maxHeartbeats 1000000 in
set_option maxRecDepth 100000 in
theorem small_calls (n : Int) (h0 : 0 ≤ n) (h1 : n < 10) (W : World) : Calls Tryd.prog 108 #[.int .i64 n] W fun e w' => e = .returned (.string (itoaS n)) ∧ Drawn0 W w' := by
 have hk : n = 0 ∨ n = 1 ∨ n = 2 ∨ n = 3 ∨ n = 4 ∨ n = 5 ∨ n = 6 ∨ n = 7 ∨ n = 8 ∨ n = 9 := by omega
 clear h0 h1
 rcases hk with rfl | rfl | rfl | rfl | rfl | rfl | rfl | rfl | rfl | rfl
 all_goals
  go_enter Tryd.func108, Tryd.ntmps108
  go_wp2
  go_ret
  exact ⟨rfl, ⟨0, rfl⟩⟩
set_option maxHeartbeats 1000000 in
set_option maxRecDepth 100000 in
theorem FormatInt_calls (n : Int) (h0 : 0 ≤ n) (h1 : n < 10) (W : World) : Calls Tryd.prog 101 #[.int .i64 n, .int .i64 10] W fun e w' => e = .returned (.string (itoaS n)) ∧ Drawn0 W w' := by
 have a0 := decide_eq_true h0
 have a1 := decide_eq_true (show n < 100 by omega)
 have HS := Aside0.mk (fun W => small_calls n h0 h1 W)
 clear h0 h1
 go_enter Tryd.func101, Tryd.ntmps101
 go_wp2_with (first | (go_at_call 108; (with_reducible refine (HS.out _).mono ?_); rintro e w' ⟨rfl, ⟨nd, rfl⟩⟩))
 go_ret
 exact ⟨rfl, ⟨_, rfl⟩⟩
set_option maxHeartbeats 1000000 in
theorem Itoa_calls (n : Int) (h0 : 0 ≤ n) (h1 : n < 10) (W : World) : Calls Tryd.prog 54 #[.int .i64 n] W fun e w' => e = .returned (.string (itoaS n)) ∧ Drawn0 W w' := by
 have HF := Aside0.mk (fun W => FormatInt_calls n h0 h1 W)
 clear h0 h1
 have HI : Aside0 (∀ W, Calls Tryd.prog 84 #[.int .i64 n] W fun e w' => e = .returned (.string (itoaS n)) ∧ Drawn0 W w') := ⟨fun W => by
  go_enter Tryd.func84, Tryd.ntmps84
  go_wp2_with (first | (go_at_call 101; (with_reducible refine (HF.out _).mono ?_); rintro e w' ⟨rfl, ⟨nd, rfl⟩⟩))
  go_ret
  exact ⟨rfl, ⟨_, rfl⟩⟩⟩
 go_enter Tryd.func54, Tryd.ntmps54
 go_wp2_with (first | (go_at_call 84; (with_reducible refine (HI.out _).mono ?_); rintro e w' ⟨rfl, ⟨nd, rfl⟩⟩))
 go_ret
 exact ⟨rfl, ⟨_, rfl⟩⟩
def placeT (p : S41) : ByteArray := ((p.f0 ++ ⟨#[32]⟩) ++ itoaS p.f1) ++ ⟨#[58, 32]⟩
def pathT (l : List S41) (n : Nat) : ByteArray := (l.take n).foldl (fun out p => out ++ placeT p) ⟨#[]⟩
theorem pathT_succ (l : List S41) (i : Int) (h0 : 0 ≤ i) (h1 : i < l.length) : pathT l (i + 1).toNat = pathT l i.toNat ++ placeT (rd_T41 l i) := by
 have hi : i.toNat < l.length := by omega
 unfold pathT rd_T41
 rw [show (i + 1).toNat = i.toNat + 1 by omega, List.take_add_one, List.foldl_append, List.getElem?_eq_getElem hi, List.getD_eq_getElem?_getD, List.getElem?_eq_getElem hi]
 rfl
theorem wordOf_size (k : Int) (h0 : 0 ≤ k) (h1 : k < 15) : (wordOf k).size ≤ 11 := by
 have hk : k = 0 ∨ k = 1 ∨ k = 2 ∨ k = 3 ∨ k = 4 ∨ k = 5 ∨ k = 6 ∨ k = 7 ∨ k = 8 ∨ k = 9 ∨ k = 10 ∨ k = 11 ∨ k = 12 ∨ k = 13 ∨ k = 14 := by omega
 rcases hk with rfl | rfl | rfl | rfl | rfl | rfl | rfl | rfl | rfl | rfl | rfl | rfl | rfl | rfl | rfl <;> decide
theorem placeT_size (p : S41) : (placeT p).size = p.f0.size + 4 := by
 unfold placeT
 simp only [ByteArray.size_append]
 rfl
theorem pathT_size (l : List S41) (B : Nat) (h : ∀ p ∈ l, p.f0.size ≤ B) (n : Nat) (hn : n ≤ l.length) : (pathT l n).size ≤ (B + 4) * n := by
 induction n with
 | zero => exact Nat.le_refl _
 | succ n ih =>
  have e := pathT_succ l (n : Int) (by omega) (by omega)
  rw [show ((n : Int) + 1).toNat = n + 1 by omega, Int.toNat_natCast] at e
  rw [e, ByteArray.size_append, placeT_size]
  have hm : rd_T41 l (n : Int) ∈ l := by unfold rd_T41; rw [Int.toNat_natCast, List.getD_eq_getElem?_getD, List.getElem?_eq_getElem (by omega)]; exact List.getElem_mem _
  have := h _ hm
  have := ih (by omega)
  rw [Nat.mul_succ]; omega
theorem text_next {w w1 w' : World} {n : Nat} {u0 u1 : Value} (h : w1.cell? ⟨n, 0, none⟩ = some u0 ∧ w1.cell? ⟨n, 1, none⟩ = some u1 ∧ n < w1.heap.size ∧ Below w.heap.size w w1) (hb : Below w1.heap.size w1 w') :
  w'.cell? ⟨n, 0, none⟩ = some u0 ∧ w'.cell? ⟨n, 1, none⟩ = some u1 ∧ n < w'.heap.size ∧ Below w.heap.size w w' :=
 ⟨(hb.cell (p := ⟨n, 0, none⟩) h.2.2.1).trans h.1, (hb.cell (p := ⟨n, 1, none⟩) h.2.2.1).trans h.2.1, Nat.lt_of_lt_of_le h.2.2.1 hb.size, below_step h.2.2.2 hb⟩
set_option maxHeartbeats 4000000 in
set_option maxRecDepth 100000 in
theorem Text_calls (ps : List (ByteArray × Int)) (v : Value) (k : Int) (W : World) (hE : ErrIs W ps v (.iface 33 (.int .i64 k))) (hg : TypeVar W) (hl : ps.length ≤ 1000) (hn : ∀ p ∈ ps, 0 ≤ p.2 ∧ p.2 < 10) (hz : ∀ p ∈ ps, p.1.size ≤ 1000) (k0 : 0 ≤ k) (k1 : k < 15) :
  Calls Tryd.prog 22 #[v] W fun e w' => e = .returned (.string (pathT (ps.map fun p => ⟨p.1, p.2⟩) ps.length ++ wordOf k)) ∧ Below W.heap.size W w' := by
 have HP := Aside0.mk (Path_calls ps v k W hE hl)
 have HE := Aside0.mk hE
 have HG := Aside0.mk hg
 obtain ⟨l, hle⟩ : ∃ l : List S41, l = ps.map fun p => (⟨p.1, p.2⟩ : S41) := ⟨_, rfl⟩
 have hll : l.length = ps.length := by rw [hle]; simp
 have HNN : Aside0 (∀ i : Int, 0 ≤ i → i < l.length → 0 ≤ (rd_T41 l i).f1 ∧ (rd_T41 l i).f1 < 10) := ⟨fun i h0 h1 => by
  have hi : i.toNat < l.length := by omega
  have hm : rd_T41 l i ∈ l := by unfold rd_T41; rw [List.getD_eq_getElem?_getD, List.getElem?_eq_getElem hi]; exact List.getElem_mem _
  generalize rd_T41 l i = z at hm ⊢
  rw [hle] at hm
  obtain ⟨p, hp, he⟩ := List.mem_map.1 hm
  rw [← he]; exact hn p hp⟩
 have HZZ : Aside0 (∀ p ∈ l, p.f0.size ≤ 1000) := ⟨fun p hp => by rw [hle] at hp; obtain ⟨q, hq, rfl⟩ := List.mem_map.1 hp; exact hz q hq⟩
 rw [← hle] at HP ⊢
 rw [← hll]
 have HK0 := Aside0.mk k0
 have HK1 := Aside0.mk k1
 have hl2 : l.length ≤ 1000 := by omega
 clear hE hg hn k0 k1 hle hll hl hz
 go_enter Tryd.func22, Tryd.ntmps22
 go_wp2_with (first | (go_at_call 24; refine HP.out.mono ?_; rintro e w1 ⟨v1, rfl, ho, hb⟩; obtain ⟨A1, c1, rfl⟩ := Kd.R_slice ho; have HO := Aside0.mk ho; have HB := Aside0.mk hb; clear ho hb))
 go_loopw [3, 9] (fun v3 v9 wr => ∃ i : Int, v9 = .int .i64 i ∧ v3 = .string (pathT l i.toNat) ∧ Aside0 (0 ≤ i ∧ i ≤ l.length ∧ Below w1.heap.size w1 wr)) (fun _ v9 _ => (l.length - intOf v9).toNat)
 case atStart => exact ⟨0, rfl, rfl, ⟨by omega, by omega, Below.refl _ _⟩⟩
 case round =>
  obtain ⟨i, rfl, rfl, HI⟩ := hrel
  have i0 := HI.out.1
  by_cases ci : i < (l.length : Int)
  ·have hltb := decide_eq_true ci
   obtain ⟨ad, rfl, hx0, hx1⟩ := at_T41 (Kd.C_below (Kd.R_reads' HO.out).2.2 HI.out.2.2) i i0 ci
   have hm : rd_T41 l i ∈ l := by unfold rd_T41; rw [List.getD_eq_getElem?_getD, List.getElem?_eq_getElem (by omega)]; exact List.getElem_mem _
   have z0 := HZZ.out _ hm
   have z1 := pathT_size l 1000 HZZ.out i.toNat (by omega)
   have z2 : (itoaS (rd_T41 l i).f1).size = 1 := rfl
   have b1 : (rd_T41 l i).f0.size + 1 ≤ 9223372036854775807 := by omega
   have b2 : (rd_T41 l i).f0.size + 1 + (itoaS (rd_T41 l i).f1).size ≤ 9223372036854775807 := by omega
   have b3 : (rd_T41 l i).f0.size + 1 + (itoaS (rd_T41 l i).f1).size + 2 ≤ 9223372036854775807 := by omega
   have b4 : (pathT l i.toNat).size + ((rd_T41 l i).f0.size + 1 + (itoaS (rd_T41 l i).f1).size + 2) ≤ 9223372036854775807 := by omega
   have n1 : ¬ 9223372036854775807 < (rd_T41 l i).f0.size + 1 := Nat.not_lt.2 b1
   have n2 : ¬ 9223372036854775807 < (rd_T41 l i).f0.size + 1 + (itoaS (rd_T41 l i).f1).size := Nat.not_lt.2 b2
   have n3 : ¬ 9223372036854775807 < (rd_T41 l i).f0.size + 1 + (itoaS (rd_T41 l i).f1).size + 2 := Nat.not_lt.2 b3
   have n4 : ¬ 9223372036854775807 < (pathT l i.toNat).size + ((rd_T41 l i).f0.size + 1 + (itoaS (rd_T41 l i).f1).size + 2) := Nat.not_lt.2 b4
   have s32 : (ByteArray.mk #[32]).size = 1 := rfl
   have s58 : (ByteArray.mk #[58, 32]).size = 2 := rfl
   have hps := pathT_succ l i i0 ci
   have HPS := Aside0.mk hps
   clear z0 z1 z2 hm hps
   have HIT := Aside0.mk (fun W => Itoa_calls (rd_T41 l i).f1 (HNN.out i i0 ci).1 (HNN.out i i0 ci).2 W)
   go_wp2
   have s0 := below_alloc HI.out.2.2 (.cells #[.string (rd_T41 l i).f0, .int .i64 (rd_T41 l i).f1] 41)
   have s1 : (wr.alloc (.cells #[.string (rd_T41 l i).f0, .int .i64 (rd_T41 l i).f1] 41)).cell? ⟨wr.heap.size, 0, none⟩ = some (.string (rd_T41 l i).f0) := by simp [go_sem]
   have s2 : (wr.alloc (.cells #[.string (rd_T41 l i).f0, .int .i64 (rd_T41 l i).f1] 41)).cell? ⟨wr.heap.size, 1, none⟩ = some (.int .i64 (rd_T41 l i).f1) := by simp [go_sem]
   have s3 : wr.heap.size < (wr.alloc (.cells #[.string (rd_T41 l i).f0, .int .i64 (rd_T41 l i).f1] 41)).heap.size := by simp
   generalize wr.alloc (.cells #[.string (rd_T41 l i).f0, .int .i64 (rd_T41 l i).f1] 41) = W2 at *
   go_region_held3 (fun w' => w'.cell? ⟨wr.heap.size, 0, none⟩ = some (.string (rd_T41 l i).f0) ∧ w'.cell? ⟨wr.heap.size, 1, none⟩ = some (.int .i64 (rd_T41 l i).f1) ∧ wr.heap.size < w'.heap.size ∧ Below w1.heap.size w1 w')
    (first | exact ⟨s1, s2, s3, below_drew s0⟩ | exact ⟨s1, s2, s3, pw_below_drewN s0 _⟩ | exact hN)
    (first | (go_at_call 54; (with_reducible refine (HIT.out _).mono ?_); rintro e w' ⟨rfl, ⟨nd, rfl⟩⟩; have hN := text_next (by assumption) (pw_below_drewN (Below.refl _ _) nd)))
   all_goals
    rename_i hH
    have HB2 := Aside0.mk hH.2.2.2
    clear hH
    go_wp2
    go_roundw
    case rel => exact ⟨i + 1, by go_num, by rw [HPS.out]; rfl, ⟨by omega, by omega, HB2.out⟩⟩
    case measure => simp [intOf]; omega
  ·have hltb := decide_eq_false ci
   obtain rfl : i = (l.length : Int) := by have := HI.out.2.1; omega
   have HEK := Aside0.mk (fun W' (hb : Below W.heap.size W W') => Kind_calls ps v k W' (HE.out.below hb) (HG.out.below hb))
   have HBW := Aside0.mk (below_step HB.out HI.out.2.2)
   have z1 := pathT_size l 1000 HZZ.out l.length (Nat.le_refl _)
   have z3 : (wordOf k).size ≤ 11 := wordOf_size k HK0.out HK1.out
   have b5 : (pathT l l.length).size + (wordOf k).size ≤ 9223372036854775807 := by omega
   clear z1 z3
   rw [Int.toNat_natCast]
   go_wp2_with (first | (go_at_call 20; go_loud (refine (HEK.out _ HBW.out).mono ?_); rintro e w' ⟨rfl, hb⟩; have HB3 := Aside0.mk (below_step HBW.out hb); clear hb) | (go_at_call 55; go_loud (refine (Error_calls k HK0.out HK1.out _).mono ?_); rintro e w' ⟨rfl, hb⟩; have HB4 := Aside0.mk (below_step HB3.out hb); clear hb))
   go_ret
   exact ⟨rfl, HB4.out⟩
set_option maxHeartbeats 4000000 in
set_option maxRecDepth 100000 in
theorem PathZ_calls (ps : List (ByteArray × Int)) (v : Value) (T : TypeId) (y : Value) (hz : ∀ w, (Instr.typeAssert (.iface T y) 31 100 true).run Tryd.prog w = .ok (.tuple #[.pointer none, .bool false]) w) (W : World) (hE : ErrIs W ps v (.iface T y)) (hl : ps.length ≤ 1000) :
  Calls Tryd.prog 24 #[v] W fun e w' => ∃ v', e = .returned v' ∧ Kd.R k41 41 w' W.heap.size (fun _ => True) v' (ps.map fun p => ⟨p.1, p.2⟩) ∧ Below W.heap.size W w' := by
 have HE := Aside0.mk hE
 have a100 := e_assert100
 have a33 := hz
 clear hE
 go_enter Tryd.func24, Tryd.ntmps24
 go_wp2
 go_loopg [0, 3] (ps.length + 1) (fun kq v0 v3 wr => ∃ (qs : List (ByteArray × Int)) (acc : List S41), kq = qs.length + 1 ∧ Aside0 (ErrIs W qs v0 (.iface T y) ∧ Kd.R k41 41 wr W.heap.size (fun _ => True) v3 acc ∧ acc ++ qs.map (fun p => (⟨p.1, p.2⟩ : S41)) = ps.map (fun p => (⟨p.1, p.2⟩ : S41)) ∧ Below W.heap.size W wr))
 case atStart => exact ⟨ps, [], rfl, ⟨HE.out, Kd.R_nil _ _ _ _ _, by simp, Below.refl _ _⟩⟩
 case round =>
  obtain ⟨qs, acc, hq, HS⟩ := hrel
  obtain ⟨A3, c3, rfl⟩ := Kd.R_slice HS.out.2.1
  cases qs with
  | nil =>
   obtain rfl : _ = Value.iface T y := HS.out.1
   go_wp2
   go_ret
   exact ⟨_, rfl, by have := HS.out.2.2.1; rw [List.map_nil, List.append_nil] at this; rw [← this]; exact HS.out.2.1, HS.out.2.2.2⟩
  | cons p qs =>
   obtain ⟨b, vi, rfl, hb, hE⟩ := HS.out.1
   have hbk := blk_below hb HS.out.2.2.2
   have hx0 := blk_cell hbk 0
   have hx1 := blk_cell hbk 1
   have hx2 := blk_cell hbk 2
   simp only [List.getElem?_toArray, List.getElem?_cons_zero, List.getElem?_cons_succ] at hx0 hx1 hx2
   have HBK := Aside0.mk hbk
   have HBW := Aside0.mk hb
   have HN := Aside0.mk hE
   obtain ⟨u, x, rfl⟩ := hE.iface
   clear hE hb hbk
   have hlen : acc.length ≤ 1000 := by have := congrArg List.length HS.out.2.2.1; simp at this; omega
   go_wp2_with (first
    | ((with_reducible refine gate_builtin (b := .append) (xs := #[.tmp 14, .tmp 19]) rfl ?_); at_builtin; refine Kd.R_append k41 (w0 := W) W.heap.size rfl (.tmp 14) (.tmp 19) 38 41 (.agg #[(.string ⟨#[]⟩), (.int .i64 0)]) 24 rfl Tryd.underlying38 info41 rfl (by decide) (by omega) (.slice A3 acc.length c3) acc (⟨p.1, p.2⟩ : S41) [.string p.1, .int .i64 p.2] (fun _ => True) (fun _ => False) rfl rfl ?aP (fun _ hk => hk.elim) ?aF ?aO ?aB ?aS ?aL ?_; (case aP => exact k41_mkM _ _ _ (⟨p.1, p.2⟩ : S41)); (case aF => exact (fun _ _ => trivial)); (case aO => exact HS.out.2.1); (case aB => exact HS.out.2.2.2); (case aS => exact HS.out.2.2.2.size); (case aL => omega); intro v2 w2 ho hb hg hat; have HB2 := Aside0.mk hb; have HO2 := Aside0.mk ho; have hbk2 := blk_grown HBK.out hg (by intro e; exact absurd (Kd.R_base HS.out.2.1 b e.symm) (by have := blk_lt HBW.out; omega)); have hy0 := blk_cell hbk2 2; simp only [List.getElem?_toArray, List.getElem?_cons_zero, List.getElem?_cons_succ] at hy0; clear ho hb hg hat))
   go_roundg (qs.length + 1)
   case measure => rw [hq]; simp
   case rel => exact ⟨qs, acc ++ [⟨p.1, p.2⟩], rfl, ⟨HN.out, HO2.out, by have := HS.out.2.2.1; rw [← this]; simp, HB2.out⟩⟩
open Go
def numS (u : Nat) : ByteArray := ⟨(Lib.decDigits u).toArray⟩
def itoaG (n : Int) : ByteArray := ⟨(Lib.itoa n).toArray⟩
theorem numS_size (u : Nat) (h : u < 18446744073709551616) : (numS u).size ≤ 20 := by
 show (Lib.decDigits u).toArray.size ≤ 20
 rw [List.size_toArray, Lib.decDigits_length]
 exact Lib.nDigits_le20 u h
theorem itoaG_size (n : Int) (h0 : -9223372036854775808 ≤ n) (h1 : n ≤ 9223372036854775807) : (itoaG n).size ≤ 21 := by
 show (Lib.itoa n).toArray.size ≤ 21
 rw [List.size_toArray]
 exact Lib.itoa_length_le n h0 h1
theorem numS_small (u : Nat) (h : u < 10) : numS u = ⟨#[UInt8.ofNat (48 + u)]⟩ := by
 unfold numS
 rw [Lib.decDigits_one h]
theorem numS_big (u : Nat) (h : ¬ u < 10) : numS u = numS (u / 10) ++ ⟨#[UInt8.ofNat (48 + u % 10)]⟩ := by
 unfold numS
 rw [Lib.decDigits, dif_neg h]
 apply ByteArray.ext
 rw [ByteArray.data_append]
 simp
theorem itoaG_nonneg (n : Int) (h : 0 ≤ n) : itoaG n = numS n.toNat := by
 unfold itoaG numS Lib.itoa
 rw [if_neg (by omega)]
theorem itoaG_neg (n : Int) (h : n < 0) : itoaG n = ⟨#[45]⟩ ++ numS n.natAbs := by
 unfold itoaG numS Lib.itoa
 rw [if_pos h]
 apply ByteArray.ext
 rw [ByteArray.data_append]
 simp
open Go.RowKit
set_option maxRecDepth 100000
def itoaT_ren : Go.Shelf.Ren := ⟨fun | 171 => 54 | 243 => 84 | 246 => 101 | 283 => 108 | 284 => 109 | 285 => 110 | 286 => 111 | 129 => 123 | 317 => 122 | 318 => 124 | 319 => 125 | 320 => 126 | 337 => 133 | 338 => 134 | n => n, fun | 3 => 3 | 9 => 9 | 2 => 2 | 4 => 4 | 171 => 180 | 0 => 0 | 53 => 22 | 37 => 175 | 5 => 5 | 173 => 183 | 212 => 200 | 51 => 201 | 20 => 20 | 213 => 202 | 46 => 174 | 232 => 215 | 233 => 216 | n => n, fun | 17 => 3 | 18 => 4 | 19 => 5 | n => n⟩
theorem itoaT : LaysM.n171 Tryd.prog itoaT_ren where
 mixed := by kernel_rfl
 f129 := Tryd.func123.trans (congrArg some (by kernel_rfl))
 f171 := Tryd.func54.trans (congrArg some (by kernel_rfl))
 f243 := Tryd.func84.trans (congrArg some (by kernel_rfl))
 f246 := Tryd.func101.trans (congrArg some (by kernel_rfl))
 f283 := Tryd.func108.trans (congrArg some (by kernel_rfl))
 f284 := Tryd.func109.trans (congrArg some (by kernel_rfl))
 f285 := Tryd.func110.trans (congrArg some (by kernel_rfl))
 f286 := Tryd.func111.trans (congrArg some (by kernel_rfl))
 f317 := Tryd.func122.trans (congrArg some (by kernel_rfl))
 f318 := Tryd.func124.trans (congrArg some (by kernel_rfl))
 f319 := Tryd.func125.trans (congrArg some (by kernel_rfl))
 f320 := Tryd.func126.trans (congrArg some (by kernel_rfl))
 f337 := Tryd.func133.trans (congrArg some (by kernel_rfl))
 f338 := Tryd.func134.trans (congrArg some (by kernel_rfl))
 t0 := Tryd.underlying0
 a0 := Tryd.isAgg0
 z0 := Tryd.sizeOf0
 v0 := Tryd.zeroValue0
 t2 := Tryd.underlying2
 a2 := Tryd.isAgg2
 z2 := Tryd.sizeOf2
 v2 := Tryd.zeroValue2
 t3 := Tryd.underlying3
 a3 := Tryd.isAgg3
 z3 := Tryd.sizeOf3
 v3 := Tryd.zeroValue3
 t4 := Tryd.underlying4
 a4 := Tryd.isAgg4
 z4 := Tryd.sizeOf4
 v4 := Tryd.zeroValue4
 t5 := Tryd.underlying5
 a5 := Tryd.isAgg5
 z5 := Tryd.sizeOf5
 v5 := Tryd.zeroValue5
 t9 := Tryd.underlying9
 a9 := Tryd.isAgg9
 z9 := Tryd.sizeOf9
 v9 := Tryd.zeroValue9
 t20 := Tryd.underlying20
 a20 := Tryd.isAgg20
 z20 := Tryd.sizeOf20
 v20 := Tryd.zeroValue20
 t37 := Tryd.underlying175
 a37 := Tryd.isAgg175
 z37 := Tryd.sizeOf175
 v37 := Tryd.zeroValue175
 t46 := Tryd.underlying174
 a46 := Tryd.isAgg174
 z46 := Tryd.sizeOf174
 v46 := Tryd.zeroValue174
 t51 := Tryd.underlying201
 a51 := Tryd.isAgg201
 z51 := Tryd.sizeOf201
 v51 := Tryd.zeroValue201
 t53 := Tryd.underlying22
 a53 := Tryd.isAgg22
 z53 := Tryd.sizeOf22
 v53 := Tryd.zeroValue22
 t171 := Tryd.underlying180
 a171 := Tryd.isAgg180
 z171 := Tryd.sizeOf180
 v171 := Tryd.zeroValue180
 t173 := Tryd.underlying183
 a173 := Tryd.isAgg183
 z173 := Tryd.sizeOf183
 v173 := Tryd.zeroValue183
 t212 := Tryd.underlying200
 a212 := Tryd.isAgg200
 z212 := Tryd.sizeOf200
 v212 := Tryd.zeroValue200
 t213 := Tryd.underlying202
 a213 := Tryd.isAgg202
 z213 := Tryd.sizeOf202
 t232 := Tryd.underlying215
 a232 := Tryd.isAgg215
 z232 := Tryd.sizeOf215
 v232 := Tryd.zeroValue215
 t233 := Tryd.underlying216
 a233 := Tryd.isAgg216
 z233 := Tryd.sizeOf216
 v233 := Tryd.zeroValue216
 g17 := by kernel_rfl
 g18 := by kernel_rfl
 g19 := by kernel_rfl
 i0 := by kernel_rfl
 i2 := by kernel_rfl
 i3 := by kernel_rfl
 i4 := by kernel_rfl
 i5 := by kernel_rfl
 i9 := by kernel_rfl
 i20 := by kernel_rfl
 i37 := by kernel_rfl
 i46 := by kernel_rfl
 i51 := by kernel_rfl
 i53 := by kernel_rfl
 i171 := by kernel_rfl
 i173 := by kernel_rfl
 i212 := by kernel_rfl
 i232 := by kernel_rfl
 i233 := by kernel_rfl
 m17 := by kernel_rfl
 m18 := by kernel_rfl
 m19 := by kernel_rfl
def Tab10 (W : World) : Prop := Lib.TabIs Tryd.prog W "internal/strconv.uint64pow10" .u64 Lib.pow10Tab
theorem Tab10.below {w w' : World} (h : Tab10 w) (hb : Below w.heap.size w w') : Tab10 w' := Lib.tabBelow_of_tabIs h w' hb
theorem ItoaG_calls (n : Int) (h0 : -9223372036854775808 ≤ n) (h1 : n ≤ 9223372036854775807) (W : World) (hT : Tab10 W) :
  Calls Tryd.prog 54 #[.int .i64 n] W fun e w' => e = .returned (.string (itoaG n)) ∧ Below W.heap.size W w' := by
 refine (Any.strconv_Itoa itoaT n h0 h1 W hT).mono ?_
 rintro e w' ⟨he, k, os, rfl⟩
 exact ⟨he, Lib.below_grow W.heap.size W (Nat.le_refl _) k os⟩
def placeG (p : S41) : ByteArray := ((p.f0 ++ ⟨#[32]⟩) ++ itoaG p.f1) ++ ⟨#[58, 32]⟩
def pathG (l : List S41) (n : Nat) : ByteArray := (l.take n).foldl (fun out p => out ++ placeG p) ⟨#[]⟩
theorem pathG_succ (l : List S41) (i : Int) (h0 : 0 ≤ i) (h1 : i < l.length) : pathG l (i + 1).toNat = pathG l i.toNat ++ placeG (rd_T41 l i) := by
 have hi : i.toNat < l.length := by omega
 unfold pathG rd_T41
 rw [show (i + 1).toNat = i.toNat + 1 by omega, List.take_add_one, List.foldl_append, List.getElem?_eq_getElem hi, List.getD_eq_getElem?_getD, List.getElem?_eq_getElem hi]
 rfl
theorem placeG_size (p : S41) (h0 : -9223372036854775808 ≤ p.f1) (h1 : p.f1 ≤ 9223372036854775807) : (placeG p).size ≤ p.f0.size + 24 := by
 unfold placeG
 simp only [ByteArray.size_append]
 have := itoaG_size p.f1 h0 h1
 have e1 : (ByteArray.mk #[32]).size = 1 := rfl
 have e2 : (ByteArray.mk #[58, 32]).size = 2 := rfl
 omega
theorem pathG_size (l : List S41) (B : Nat) (h : ∀ p ∈ l, p.f0.size ≤ B) (hi : ∀ p ∈ l, -9223372036854775808 ≤ p.f1 ∧ p.f1 ≤ 9223372036854775807) (n : Nat) (hn : n ≤ l.length) : (pathG l n).size ≤ (B + 24) * n := by
 induction n with
 | zero => exact Nat.le_refl _
 | succ n ih =>
  have e := pathG_succ l (n : Int) (by omega) (by omega)
  rw [show ((n : Int) + 1).toNat = n + 1 by omega, Int.toNat_natCast] at e
  have hm : rd_T41 l (n : Int) ∈ l := by unfold rd_T41; rw [Int.toNat_natCast, List.getD_eq_getElem?_getD, List.getElem?_eq_getElem (by omega)]; exact List.getElem_mem _
  rw [e, ByteArray.size_append]
  have := placeG_size _ (hi _ hm).1 (hi _ hm).2
  have := h _ hm
  have := ih (by omega)
  rw [Nat.mul_succ]; omega
theorem text_bel {w1 w' : World} {n : Nat} {u0 u1 : Value} (h : w'.cell? ⟨n, 0, none⟩ = some u0 ∧ w'.cell? ⟨n, 1, none⟩ = some u1 ∧ n < w'.heap.size ∧ Below w1.heap.size w1 w') : Below w1.heap.size w1 w' := h.2.2.2
set_option maxHeartbeats 4000000 in
set_option maxRecDepth 100000 in
theorem TextG_calls (ps : List (ByteArray × Int)) (v : Value) (T : TypeId) (y : Value) (hz0 : ∀ w, (Instr.typeAssert (.iface T y) 31 100 true).run Tryd.prog w = .ok (.tuple #[.pointer none, .bool false]) w) (k : Int) (W : World) (hTb : Tab10 W) (hE : ErrIs W ps v (.iface T y)) (hkd : ∀ W', Below W.heap.size W W' → Calls Tryd.prog 20 #[v] W' fun e w' => e = .returned (.int .i64 k) ∧ Below W'.heap.size W' w') (hl : ps.length ≤ 1000) (hn : ∀ p ∈ ps, -9223372036854775808 ≤ p.2 ∧ p.2 ≤ 9223372036854775807) (hz : ∀ p ∈ ps, p.1.size ≤ 1000) (k0 : 0 ≤ k) (k1 : k < 15) :
  Calls Tryd.prog 22 #[v] W fun e w' => e = .returned (.string (pathG (ps.map fun p => ⟨p.1, p.2⟩) ps.length ++ wordOf k)) ∧ Below W.heap.size W w' := by
 have HP := Aside0.mk (PathZ_calls ps v T y hz0 W hE hl)
 have HE := Aside0.mk hE
 have HKD := Aside0.mk hkd
 have HTB := Aside0.mk hTb
 obtain ⟨l, hle⟩ : ∃ l : List S41, l = ps.map fun p => (⟨p.1, p.2⟩ : S41) := ⟨_, rfl⟩
 have hll : l.length = ps.length := by rw [hle]; simp
 have HNN : Aside0 (∀ i : Int, 0 ≤ i → i < l.length → -9223372036854775808 ≤ (rd_T41 l i).f1 ∧ (rd_T41 l i).f1 ≤ 9223372036854775807) := ⟨fun i h0 h1 => by
  have hi : i.toNat < l.length := by omega
  have hm : rd_T41 l i ∈ l := by unfold rd_T41; rw [List.getD_eq_getElem?_getD, List.getElem?_eq_getElem hi]; exact List.getElem_mem _
  generalize rd_T41 l i = z at hm ⊢
  rw [hle] at hm
  obtain ⟨p, hp, he⟩ := List.mem_map.1 hm
  rw [← he]; exact hn p hp⟩
 have HN2 : Aside0 (∀ p ∈ l, -9223372036854775808 ≤ p.f1 ∧ p.f1 ≤ 9223372036854775807) := ⟨fun p hp => by rw [hle] at hp; obtain ⟨q, hq, rfl⟩ := List.mem_map.1 hp; exact hn q hq⟩
 have HZZ : Aside0 (∀ p ∈ l, p.f0.size ≤ 1000) := ⟨fun p hp => by rw [hle] at hp; obtain ⟨q, hq, rfl⟩ := List.mem_map.1 hp; exact hz q hq⟩
 rw [← hle] at HP ⊢
 rw [← hll]
 have HK0 := Aside0.mk k0
 have HK1 := Aside0.mk k1
 have hl2 : l.length ≤ 1000 := by omega
 clear hE hkd hn hTb k0 k1 hle hll hl hz
 go_enter Tryd.func22, Tryd.ntmps22
 go_wp2_with (first | (go_at_call 24; refine HP.out.mono ?_; rintro e w1 ⟨v1, rfl, ho, hb⟩; obtain ⟨A1, c1, rfl⟩ := Kd.R_slice ho; have HO := Aside0.mk ho; have HB := Aside0.mk hb; clear ho hb))
 go_loopw [3, 9] (fun v3 v9 wr => ∃ i : Int, v9 = .int .i64 i ∧ v3 = .string (pathG l i.toNat) ∧ Aside0 (0 ≤ i ∧ i ≤ l.length ∧ Below w1.heap.size w1 wr)) (fun _ v9 _ => (l.length - intOf v9).toNat)
 case atStart => exact ⟨0, rfl, rfl, ⟨by omega, by omega, Below.refl _ _⟩⟩
 case round =>
  obtain ⟨i, rfl, rfl, HI⟩ := hrel
  have i0 := HI.out.1
  by_cases ci : i < (l.length : Int)
  ·have hltb := decide_eq_true ci
   obtain ⟨ad, rfl, hx0, hx1⟩ := at_T41 (Kd.C_below (Kd.R_reads' HO.out).2.2 HI.out.2.2) i i0 ci
   have hm : rd_T41 l i ∈ l := by unfold rd_T41; rw [List.getD_eq_getElem?_getD, List.getElem?_eq_getElem (by omega)]; exact List.getElem_mem _
   have z0 := HZZ.out _ hm
   have z1 := pathG_size l 1000 HZZ.out HN2.out i.toNat (by omega)
   have z2 := itoaG_size (rd_T41 l i).f1 (HNN.out i i0 ci).1 (HNN.out i i0 ci).2
   have b1 : (rd_T41 l i).f0.size + 1 ≤ 9223372036854775807 := by omega
   have b2 : (rd_T41 l i).f0.size + 1 + (itoaG (rd_T41 l i).f1).size ≤ 9223372036854775807 := by omega
   have b3 : (rd_T41 l i).f0.size + 1 + (itoaG (rd_T41 l i).f1).size + 2 ≤ 9223372036854775807 := by omega
   have b4 : (pathG l i.toNat).size + ((rd_T41 l i).f0.size + 1 + (itoaG (rd_T41 l i).f1).size + 2) ≤ 9223372036854775807 := by omega
   have n1 : ¬ 9223372036854775807 < (rd_T41 l i).f0.size + 1 := Nat.not_lt.2 b1
   have n2 : ¬ 9223372036854775807 < (rd_T41 l i).f0.size + 1 + (itoaG (rd_T41 l i).f1).size := Nat.not_lt.2 b2
   have n3 : ¬ 9223372036854775807 < (rd_T41 l i).f0.size + 1 + (itoaG (rd_T41 l i).f1).size + 2 := Nat.not_lt.2 b3
   have n4 : ¬ 9223372036854775807 < (pathG l i.toNat).size + ((rd_T41 l i).f0.size + 1 + (itoaG (rd_T41 l i).f1).size + 2) := Nat.not_lt.2 b4
   have s32 : (ByteArray.mk #[32]).size = 1 := rfl
   have s58 : (ByteArray.mk #[58, 32]).size = 2 := rfl
   have hps := pathG_succ l i i0 ci
   have HPS := Aside0.mk hps
   clear z0 z1 z2 hm hps
   have HIT := Aside0.mk (fun W' (hb : Below w1.heap.size w1 W') => ItoaG_calls (rd_T41 l i).f1 (HNN.out i i0 ci).1 (HNN.out i i0 ci).2 W' (HTB.out.below (below_step HB.out hb)))
   go_wp2
   have s0 := below_alloc HI.out.2.2 (.cells #[.string (rd_T41 l i).f0, .int .i64 (rd_T41 l i).f1] 41)
   have s1 : (wr.alloc (.cells #[.string (rd_T41 l i).f0, .int .i64 (rd_T41 l i).f1] 41)).cell? ⟨wr.heap.size, 0, none⟩ = some (.string (rd_T41 l i).f0) := by simp [go_sem]
   have s2 : (wr.alloc (.cells #[.string (rd_T41 l i).f0, .int .i64 (rd_T41 l i).f1] 41)).cell? ⟨wr.heap.size, 1, none⟩ = some (.int .i64 (rd_T41 l i).f1) := by simp [go_sem]
   have s3 : wr.heap.size < (wr.alloc (.cells #[.string (rd_T41 l i).f0, .int .i64 (rd_T41 l i).f1] 41)).heap.size := by simp
   generalize wr.alloc (.cells #[.string (rd_T41 l i).f0, .int .i64 (rd_T41 l i).f1] 41) = W2 at *
   go_region_held3 (fun w' => w'.cell? ⟨wr.heap.size, 0, none⟩ = some (.string (rd_T41 l i).f0) ∧ w'.cell? ⟨wr.heap.size, 1, none⟩ = some (.int .i64 (rd_T41 l i).f1) ∧ wr.heap.size < w'.heap.size ∧ Below w1.heap.size w1 w')
    (first | exact ⟨s1, s2, s3, below_drew s0⟩ | exact ⟨s1, s2, s3, pw_below_drewN s0 _⟩ | exact hN)
    (first | (go_at_call 54; (with_reducible refine (HIT.out _ (text_bel (by assumption))).mono ?_); rintro e w' ⟨rfl, hbI⟩; have hN := text_next (by assumption) hbI; clear hbI))
   all_goals
    rename_i hH
    have HB2 := Aside0.mk hH.2.2.2
    clear hH
    go_wp2
    go_roundw
    case rel => exact ⟨i + 1, by go_num, by rw [HPS.out]; rfl, ⟨by omega, by omega, HB2.out⟩⟩
    case measure => simp [intOf]; omega
  ·have hltb := decide_eq_false ci
   obtain rfl : i = (l.length : Int) := by have := HI.out.2.1; omega
   have HEK := Aside0.mk (fun W' (hb : Below W.heap.size W W') => HKD.out W' hb)
   have HBW := Aside0.mk (below_step HB.out HI.out.2.2)
   have z1 := pathG_size l 1000 HZZ.out HN2.out l.length (Nat.le_refl _)
   have z3 : (wordOf k).size ≤ 11 := wordOf_size k HK0.out HK1.out
   have b5 : (pathG l l.length).size + (wordOf k).size ≤ 9223372036854775807 := by omega
   clear z1 z3
   rw [Int.toNat_natCast]
   go_wp2_with (first | (go_at_call 20; go_loud (refine (HEK.out _ HBW.out).mono ?_); rintro e w' ⟨rfl, hb⟩; have HB3 := Aside0.mk (below_step HBW.out hb); clear hb) | (go_at_call 55; go_loud (refine (Error_calls k HK0.out HK1.out _).mono ?_); rintro e w' ⟨rfl, hb⟩; have HB4 := Aside0.mk (below_step HB3.out hb); clear hb))
   go_ret
   exact ⟨rfl, HB4.out⟩
end Go.Proofs.YtgeldmhgbnamcaaDoor.P
end
section
namespace Go.Proofs.YtgeldmhgbnamcaaDoor.Q
open Go.RowKit Go.Proofs.YtgeldmhgbnamcaaDoorW.PrintWords Go.Proofs.YtgeldmhgbnamcaaDoorW.PrintLast Go.Proofs.YtgeldmhgbnamcaaDoorW.PrintMore
attribute [local go_sem] max2_int min2_int max_two min_two max_three min_three max_four min_four
set_option linter.unusedVariables false
set_option linter.unusedSimpArgs false
def marchlandref01_Num.f : Nat → Int → Option (ByteArray)
  | 0, _ => none
  | k + 1, a0 => if a0 < 10 then (if 0 ≤ a0 then (if a0 ≤ (IntKind.u64.wrap (a0 + 1)) then (if (IntKind.u64.wrap (a0 + 1)) ≤ 10 then (some ((⟨#[48, 49, 50, 51, 52, 53, 54, 55, 56, 57]⟩ : ByteArray).extract (a0 : Int).toNat ((IntKind.u64.wrap (a0 + 1)) : Int).toNat)) else (none)) else (none)) else (none)) else ((marchlandref01_Num.f k (IntKind.u64.wrap (Int.tdiv a0 10))).bind fun t134 => (if 0 ≤ (Int.tmod a0 10) then (if (Int.tmod a0 10) ≤ (IntKind.u64.wrap ((Int.tmod a0 10) + 1)) then (if (IntKind.u64.wrap ((Int.tmod a0 10) + 1)) ≤ 10 then (if t134.size + ((⟨#[48, 49, 50, 51, 52, 53, 54, 55, 56, 57]⟩ : ByteArray).extract ((Int.tmod a0 10) : Int).toNat ((IntKind.u64.wrap ((Int.tmod a0 10) + 1)) : Int).toNat).size ≤ 9223372036854775807 then (some (t134 ++ ((⟨#[48, 49, 50, 51, 52, 53, 54, 55, 56, 57]⟩ : ByteArray).extract ((Int.tmod a0 10) : Int).toNat ((IntKind.u64.wrap ((Int.tmod a0 10) + 1)) : Int).toNat))) else (none)) else (none)) else (none)) else (none)))
def marchlandref01_Num.T3 : Bool × List (List Nat × List Nat) := (true, [([], []), ([0], [0]), ([1], [1]), ([], []), ([3], [3]), ([], []), ([5], [5]), ([6], [6]), ([4, 7], [4, 7]), ([2, 8], [2, 8]), ([9, 2, 0, 1, 2, 3, 4, 5, 6, 7, 8, 9], [9])])
def marchlandref01_Num.B3 : List Nat := [0, 1, 3, 0, 8, 0, 32, 96, 248, 511, 1023]
theorem marchlandref01_Num.tab3 : rtab .any (opsOf Tryd.f65 3) = marchlandref01_Num.T3 := by kernel_rfl
theorem marchlandref01_Num.bits3 : waitsOk marchlandref01_Num.T3.2 marchlandref01_Num.B3 = true := by kernel_rfl
set_option maxHeartbeats 8000000 in
set_option maxRecDepth 100000 in
theorem marchlandref01_Num.calls (k : Nat) : ∀ (a0 : Int) (r : ByteArray) (w : World) (h : marchlandref01_Num.f k a0 = some r),
    Calls Tryd.prog 65 #[.int .u64 a0] w fun e w' => e = .returned (.string r) ∧ Below w.heap.size w w' := by
  induction k using Nat.strongRecOn with
  | _ k ih =>
  intro a0 r w h
  cases k with
  | zero => exact absurd h (by simp [marchlandref01_Num.f])
  | succ k =>
  simp only [marchlandref01_Num.f] at h
  have HB := Aside0.mk (Below.refl w.heap.size w)
  have H : (if a0 < 10 then (if 0 ≤ a0 then (if a0 ≤ (IntKind.u64.wrap (a0 + 1)) then (if (IntKind.u64.wrap (a0 + 1)) ≤ 10 then (some ((⟨#[48, 49, 50, 51, 52, 53, 54, 55, 56, 57]⟩ : ByteArray).extract (a0 : Int).toNat ((IntKind.u64.wrap (a0 + 1)) : Int).toNat)) else (none)) else (none)) else (none)) else ((marchlandref01_Num.f k (IntKind.u64.wrap (Int.tdiv a0 10))).bind fun t134 => (if 0 ≤ (Int.tmod a0 10) then (if (Int.tmod a0 10) ≤ (IntKind.u64.wrap ((Int.tmod a0 10) + 1)) then (if (IntKind.u64.wrap ((Int.tmod a0 10) + 1)) ≤ 10 then (if t134.size + ((⟨#[48, 49, 50, 51, 52, 53, 54, 55, 56, 57]⟩ : ByteArray).extract ((Int.tmod a0 10) : Int).toNat ((IntKind.u64.wrap ((Int.tmod a0 10) + 1)) : Int).toNat).size ≤ 9223372036854775807 then (some (t134 ++ ((⟨#[48, 49, 50, 51, 52, 53, 54, 55, 56, 57]⟩ : ByteArray).extract ((Int.tmod a0 10) : Int).toNat ((IntKind.u64.wrap ((Int.tmod a0 10) + 1)) : Int).toNat))) else (none)) else (none)) else (none)) else (none)))) = some r := h
  clear h
  by_cases c2 : a0 < 10
  · rw [if_pos c2] at H
    have c2b0 : decide (a0 < 10) = true := decide_eq_true c2
    clear c2
    by_cases c3 : 0 ≤ a0
    · rw [if_pos c3] at H
      have c3b0 := eq_true c3
      have c3b1 : decide (0 ≤ a0) = true := decide_eq_true c3
      clear c3
      by_cases c4 : a0 ≤ (IntKind.u64.wrap (a0 + 1))
      · rw [if_pos c4] at H
        have c4b0 := eq_true c4
        have c4b1 : decide (a0 ≤ (IntKind.u64.wrap (a0 + 1))) = true := decide_eq_true c4
        by_cases c5 : (IntKind.u64.wrap (a0 + 1)) ≤ 10
        · rw [if_pos c5] at H
          have c5b0 := eq_true c5
          have c5b1 : decide ((IntKind.u64.wrap (a0 + 1)) ≤ 10) = true := decide_eq_true c5
          obtain rfl := Option.some.inj H
          go_enter Tryd.func65, Tryd.ntmps65
          go_wp2
          go_ret
          exact ⟨by first | rfl | (simp [errW_none, errW_some] <;> rfl) | (simp [*, errW_none, errW_some] <;> rfl), by repeat (first | (with_reducible first | exact HB.out | apply below_alloc | apply pw_below_drewN | apply below_drew1) | exact HB.out)⟩
        · rw [if_neg c5] at H
          exact absurd H (by simp)
      · rw [if_neg c4] at H
        exact absurd H (by simp)
    · rw [if_neg c3] at H
      exact absurd H (by simp)
  · rw [if_neg c2] at H
    have c2b0 : decide (a0 < 10) = false := decide_eq_false c2
    clear c2
    replace H := Option.bind_eq_some_iff.mp H
    obtain ⟨t134, A60, H⟩ := H
    replace H : (if 0 ≤ (Int.tmod a0 10) then (if (Int.tmod a0 10) ≤ (IntKind.u64.wrap ((Int.tmod a0 10) + 1)) then (if (IntKind.u64.wrap ((Int.tmod a0 10) + 1)) ≤ 10 then (if t134.size + ((⟨#[48, 49, 50, 51, 52, 53, 54, 55, 56, 57]⟩ : ByteArray).extract ((Int.tmod a0 10) : Int).toNat ((IntKind.u64.wrap ((Int.tmod a0 10) + 1)) : Int).toNat).size ≤ 9223372036854775807 then (some (t134 ++ ((⟨#[48, 49, 50, 51, 52, 53, 54, 55, 56, 57]⟩ : ByteArray).extract ((Int.tmod a0 10) : Int).toNat ((IntKind.u64.wrap ((Int.tmod a0 10) + 1)) : Int).toNat))) else (none)) else (none)) else (none)) else (none)) = some r := H
    have A6 := Aside0.mk A60
    clear A60
    obtain ⟨ji7, hji7⟩ : ∃ j_ : Int, (Int.tmod a0 10) = j_ := ⟨_, rfl⟩
    replace H : (if 0 ≤ (ji7) then (if (ji7) ≤ (IntKind.u64.wrap ((ji7) + 1)) then (if (IntKind.u64.wrap ((ji7) + 1)) ≤ 10 then (if t134.size + ((⟨#[48, 49, 50, 51, 52, 53, 54, 55, 56, 57]⟩ : ByteArray).extract ((ji7) : Int).toNat ((IntKind.u64.wrap ((ji7) + 1)) : Int).toNat).size ≤ 9223372036854775807 then (some (t134 ++ ((⟨#[48, 49, 50, 51, 52, 53, 54, 55, 56, 57]⟩ : ByteArray).extract ((ji7) : Int).toNat ((IntKind.u64.wrap ((ji7) + 1)) : Int).toNat))) else (none)) else (none)) else (none)) else (none)) = some r := by first | (rw [hji7] at H; exact H) | (simp only [hji7] at H ⊢; exact H)
    (try rw [hji7] at A6)
    by_cases c8 : 0 ≤ (ji7)
    · rw [if_pos c8] at H
      have c8b0 := eq_true c8
      have c8b1 : decide (0 ≤ (ji7)) = true := decide_eq_true c8
      clear c8
      by_cases c9 : (ji7) ≤ (IntKind.u64.wrap ((ji7) + 1))
      · rw [if_pos c9] at H
        have c9b0 := eq_true c9
        have c9b1 : decide ((ji7) ≤ (IntKind.u64.wrap ((ji7) + 1))) = true := decide_eq_true c9
        by_cases c10 : (IntKind.u64.wrap ((ji7) + 1)) ≤ 10
        · rw [if_pos c10] at H
          have c10b0 := eq_true c10
          have c10b1 : decide ((IntKind.u64.wrap ((ji7) + 1)) ≤ 10) = true := decide_eq_true c10
          by_cases c11 : t134.size + ((⟨#[48, 49, 50, 51, 52, 53, 54, 55, 56, 57]⟩ : ByteArray).extract ((ji7) : Int).toNat ((IntKind.u64.wrap ((ji7) + 1)) : Int).toNat).size ≤ 9223372036854775807
          · rw [if_pos c11] at H
            have c11b0 := eq_true c11
            have c11b1 : decide (t134.size + ((⟨#[48, 49, 50, 51, 52, 53, 54, 55, 56, 57]⟩ : ByteArray).extract ((ji7) : Int).toNat ((IntKind.u64.wrap ((ji7) + 1)) : Int).toNat).size ≤ 9223372036854775807) = true := decide_eq_true c11
            try have c11b2 : (9223372036854775807 < t134.size + ((⟨#[48, 49, 50, 51, 52, 53, 54, 55, 56, 57]⟩ : ByteArray).extract ((ji7) : Int).toNat ((IntKind.u64.wrap ((ji7) + 1)) : Int).toNat).size) = False := eq_false (Nat.not_lt.2 c11)
            have c11b3 : (9223372036854775807 < t134.size + ((IntKind.u64.wrap (ji7 + 1)).toNat - ji7.toNat)) = False := eq_false (by have h_ := c11; rw [ByteArray.size_extract, show (⟨#[48, 49, 50, 51, 52, 53, 54, 55, 56, 57]⟩ : ByteArray).size = 10 from rfl] at h_; omega)
            obtain rfl := Option.some.inj H
            go_enter Tryd.func65, Tryd.ntmps65
            try go_wp2
            have n0_ := Aside0.mk (below_drew1 HB.out)
            clear HB
            have HB := n0_
            clear n0_
            refine start_ (n := 11) (S := fun w' => True) (ds := []) #[false, false, false, false, false, false, false, false, false, false, false] (by kernel_rfl) rfl rfl trivial (fun hHeld => ?_); refine with_tabW marchlandref01_Num.tab3 marchlandref01_Num.bits3 (fun HT_ HW_ => ?_)
            generalize w.drew = w12 at HB hHeld ⊢
            refine pure_ (i := 0) (N := some 9) (v := ?_) (a' := ?_) #[true, false, false, false, false, false, false, false, false, false, false] rfl rfl (any_of HT_.out (by kernel_rfl)) (fun _ _ _ h => h) (Or.inl ⟨by rfl, ?_⟩) ?_ ?_
            rotate_left
            · intro w'
              go_simp
              with_reducible rfl
            rotate_left
            · simp only [Act.put, List.setIfInBounds_toArray, List.set_cons_zero, List.set_cons_succ, i64_w, i32_w]
              rfl
            refine pure_ (i := 1) (N := some 10) (v := ?_) (a' := ?_) #[true, true, false, false, false, false, false, false, false, false, false] rfl rfl (any_of HT_.out (by kernel_rfl)) (fun _ _ _ h => h) (Or.inl ⟨by rfl, ?_⟩) ?_ ?_
            rotate_left
            · intro w'
              go_simp
              with_reducible rfl
            rotate_left
            · simp only [Act.put, List.setIfInBounds_toArray, List.set_cons_zero, List.set_cons_succ, i64_w, i32_w]
              rfl
            refine pure_ (i := 3) (N := some 12) (v := ?_) (a' := ?_) #[true, true, false, true, false, false, false, false, false, false, false] rfl rfl (any_of HT_.out (by kernel_rfl)) (fun _ _ _ h => h) (Or.inl ⟨by rfl, ?_⟩) ?_ ?_
            rotate_left
            · intro w'
              go_simp
              with_reducible rfl
            rotate_left
            · simp only [Act.put, List.setIfInBounds_toArray, List.set_cons_zero, List.set_cons_succ, i64_w, i32_w]
              rfl
            refine pure_ (i := 4) (N := some 13) (v := ?_) (a' := ?_) #[true, true, false, true, true, false, false, false, false, false, false] rfl rfl (any_of HT_.out (by kernel_rfl)) (fun _ _ _ h => h) (Or.inl ⟨by rfl, ?_⟩) ?_ ?_
            rotate_left
            · intro w'
              go_simp
              with_reducible rfl
            rotate_left
            · simp only [Act.put, List.setIfInBounds_toArray, List.set_cons_zero, List.set_cons_succ, i64_w, i32_w]
              rfl
            refine pure_ (i := 5) (N := some 14) (v := ?_) (a' := ?_) #[true, true, false, true, true, true, false, false, false, false, false] rfl rfl (any_of HT_.out (by kernel_rfl)) (fun _ _ _ h => h) (Or.inl ⟨by rfl, ?_⟩) ?_ ?_
            rotate_left
            · intro w'
              go_simp
              with_reducible rfl
            rotate_left
            · simp only [Act.put, List.setIfInBounds_toArray, List.set_cons_zero, List.set_cons_succ, i64_w, i32_w]
              rfl
            refine pure_ (i := 6) (N := some 15) (v := ?_) (a' := ?_) #[true, true, false, true, true, true, true, false, false, false, false] rfl rfl (any_of HT_.out (by kernel_rfl)) (fun _ _ _ h => h) (Or.inl ⟨by rfl, ?_⟩) ?_ ?_
            rotate_left
            · intro w'
              go_simp
              with_reducible rfl
            rotate_left
            · simp only [Act.put, List.setIfInBounds_toArray, List.set_cons_zero, List.set_cons_succ, i64_w, i32_w]
              rfl
            refine pure_ (i := 7) (N := some 16) (v := ?_) (a' := ?_) #[true, true, false, true, true, true, true, true, false, false, false] rfl rfl (any_of HT_.out (by kernel_rfl)) (fun _ _ _ h => h) (Or.inl ⟨by rfl, ?_⟩) ?_ ?_
            rotate_left
            · intro w'
              go_simp
              with_reducible rfl
            rotate_left
            · simp only [Act.put, List.setIfInBounds_toArray, List.set_cons_zero, List.set_cons_succ, i64_w, i32_w]
              rfl
            refine pure_ (i := 8) (N := some 17) (v := ?_) (a' := ?_) #[true, true, false, true, true, true, true, true, true, false, false] rfl rfl (any_of HT_.out (by kernel_rfl)) (fun _ _ _ h => h) (Or.inl ⟨by rfl, ?_⟩) ?_ ?_
            rotate_left
            · intro w'
              go_simp
              with_reducible rfl
            rotate_left
            · simp only [Act.put, List.setIfInBounds_toArray, List.set_cons_zero, List.set_cons_succ, i64_w, i32_w]
              rfl
            refine one_ (i := 2) (N := some 11) #[true, true, true, true, true, true, true, true, true, false, false] rfl rfl (one_of HT_.out (by kernel_rfl)) (by decide) (fun K hK => ?_)
            refine goes_ Tryd.func65 (by kernel_rfl) rfl #[.int .u64 (IntKind.u64.wrap (Int.tdiv a0 10))] (by rfl) rfl rfl (by (try simp only [List.map_toArray, List.map_cons, List.map_nil]); first | done | rfl | (simp only [List.length_drop, List.length_take]; rfl)) ?_
            with_reducible refine (ih k (by omega) (IntKind.u64.wrap (Int.tdiv a0 10)) t134 _ A6.out).mono ?_
            rintro e w13 ⟨rfl, hb⟩
            refine ⟨_, rfl, ?_⟩
            have n0_ := Aside0.mk (below_step (by repeat (first | (with_reducible first | exact HB.out | apply below_alloc | apply pw_below_drewN | apply below_drew1) | exact HB.out)) hb)
            clear HB
            have HB := n0_
            clear n0_
            (try clear hb)
            (try clear hb2)
            (try clear hk)
            (try clear hi)
            refine hK.out _ _ trivial (fun hHeld => ?_)
            clear hK K
            refine norm_ (a' := ?_) ?_ ?_
            rotate_left
            · show Act.put _ (some 11) _ = _
              simp only [Act.put, List.setIfInBounds_toArray, List.set_cons_zero, List.set_cons_succ, i64_w, i32_w]
              rfl
            refine pure_ (i := 9) (N := some 18) (v := ?_) (a' := ?_) #[true, true, true, true, true, true, true, true, true, true, false] rfl rfl (any_of HT_.out (by kernel_rfl)) (fun _ _ _ h => h) (Or.inl ⟨by rfl, ?_⟩) ?_ ?_
            rotate_left
            · intro w'
              go_simp
              with_reducible rfl
            rotate_left
            · simp only [Act.put, List.setIfInBounds_toArray, List.set_cons_zero, List.set_cons_succ, i64_w, i32_w]
              rfl
            refine pure_ (i := 10) (N := some 2) (v := ?_) (a' := ?_) #[true, true, true, true, true, true, true, true, true, true, true] rfl rfl (any_of HT_.out (by kernel_rfl)) (fun _ _ _ h => h) (Or.inl ⟨by rfl, ?_⟩) ?_ ?_
            rotate_left
            · intro w'
              go_simp
              with_reducible rfl
            rotate_left
            · simp only [Act.put, List.setIfInBounds_toArray, List.set_cons_zero, List.set_cons_succ, i64_w, i32_w]
              rfl
            refine done_ (done_of HT_.out (by kernel_rfl)) ?_
            try go_wp2
            go_ret
            exact ⟨by first | rfl | (simp [errW_none, errW_some] <;> rfl) | (simp only [← hji7]; first | rfl | (simp [errW_none, errW_some] <;> rfl)) | (simp [*, errW_none, errW_some] <;> rfl), by repeat (first | (with_reducible first | exact HB.out | apply below_alloc | apply pw_below_drewN | apply below_drew1) | exact HB.out)⟩
          · rw [if_neg c11] at H
            exact absurd H (by simp)
        · rw [if_neg c10] at H
          exact absurd H (by simp)
      · rw [if_neg c9] at H
        exact absurd H (by simp)
    · rw [if_neg c8] at H
      exact absurd H (by simp)
def marchlandref02_Num.f (k : Nat) (a0 : Int) : Option (ByteArray) := if a0 < 0 then ((marchlandref01_Num.f k (IntKind.u64.wrap ((IntKind.u64.wrap (wrap64 (-(wrap64 (a0 + 1))))) + 1))).bind fun t135 => (if 1 + t135.size ≤ 9223372036854775807 then (some ((⟨#[45]⟩ : ByteArray) ++ t135)) else (none))) else ((marchlandref01_Num.f k (IntKind.u64.wrap (a0))).bind fun t136 => (some t136))
set_option maxHeartbeats 8000000 in
set_option maxRecDepth 100000 in
theorem marchlandref02_Num.calls (k : Nat) (a0 : Int) (r : ByteArray) (w : World) (h : marchlandref02_Num.f k a0 = some r) :
    Calls Tryd.prog 56 #[.int .i64 a0] w fun e w' => e = .returned (.string r) ∧ Below w.heap.size w w' := by
  have HB := Aside0.mk (Below.refl w.heap.size w)
  have H : (if a0 < 0 then ((marchlandref01_Num.f k (IntKind.u64.wrap ((IntKind.u64.wrap (wrap64 (-(wrap64 (a0 + 1))))) + 1))).bind fun t135 => (if 1 + t135.size ≤ 9223372036854775807 then (some ((⟨#[45]⟩ : ByteArray) ++ t135)) else (none))) else ((marchlandref01_Num.f k (IntKind.u64.wrap (a0))).bind fun t136 => (some t136))) = some r := h
  clear h
  by_cases c2 : a0 < 0
  · rw [if_pos c2] at H
    have c2b0 : decide (a0 < 0) = true := decide_eq_true c2
    clear c2
    replace H := Option.bind_eq_some_iff.mp H
    obtain ⟨t135, A30, H⟩ := H
    replace H : (if 1 + t135.size ≤ 9223372036854775807 then (some ((⟨#[45]⟩ : ByteArray) ++ t135)) else (none)) = some r := H
    have A3 := Aside0.mk A30
    clear A30
    by_cases c4 : 1 + t135.size ≤ 9223372036854775807
    · rw [if_pos c4] at H
      have c4b0 := eq_true c4
      have c4b1 : decide (1 + t135.size ≤ 9223372036854775807) = true := decide_eq_true c4
      try have c4b2 : (9223372036854775807 < 1 + t135.size) = False := eq_false (Nat.not_lt.2 c4)
      obtain rfl := Option.some.inj H
      go_enter Tryd.func56, Tryd.ntmps56
      go_wp2_with (first | ((with_reducible refine gate_callee (f := 65) rfl ?_); refine goesL_ (some 10) rfl rfl Tryd.func65 (by kernel_rfl) rfl #[.int .u64 (IntKind.u64.wrap ((IntKind.u64.wrap (wrap64 (-(wrap64 (a0 + 1))))) + 1))] rfl (by (try simp only [List.map_toArray, List.map_cons, List.map_nil]); first | done | rfl | (simp only [List.length_drop, List.length_take]; rfl)) ?_; (with_reducible refine (marchlandref01_Num.calls k (IntKind.u64.wrap ((IntKind.u64.wrap (wrap64 (-(wrap64 (a0 + 1))))) + 1)) t135 _ A3.out).mono ?_); rintro e w5 ⟨rfl, hb⟩; refine ⟨_, rfl, ?_⟩; have n0_ := Aside0.mk (below_step (by repeat (first | (with_reducible first | exact HB.out | apply below_alloc | apply pw_below_drewN | apply below_drew1) | exact HB.out)) hb); clear HB; have HB := n0_; clear n0_; (try clear hb); (try clear hb2); (try clear hk); (try clear hi)))
      go_ret
      exact ⟨by first | rfl | (simp [errW_none, errW_some] <;> rfl) | (simp [*, errW_none, errW_some] <;> rfl), by repeat (first | (with_reducible first | exact HB.out | apply below_alloc | apply pw_below_drewN | apply below_drew1) | exact HB.out)⟩
    · rw [if_neg c4] at H
      exact absurd H (by simp)
  · rw [if_neg c2] at H
    have c2b0 : decide (a0 < 0) = false := decide_eq_false c2
    clear c2
    replace H := Option.bind_eq_some_iff.mp H
    obtain ⟨t136, A60, H⟩ := H
    replace H : (some t136) = some r := H
    have A6 := Aside0.mk A60
    clear A60
    obtain rfl := Option.some.inj H
    go_enter Tryd.func56, Tryd.ntmps56
    go_wp2_with (first | ((with_reducible refine gate_callee (f := 65) rfl ?_); refine goesL_ (some 14) rfl rfl Tryd.func65 (by kernel_rfl) rfl #[.int .u64 (IntKind.u64.wrap (a0))] rfl (by (try simp only [List.map_toArray, List.map_cons, List.map_nil]); first | done | rfl | (simp only [List.length_drop, List.length_take]; rfl)) ?_; (with_reducible refine (marchlandref01_Num.calls k (IntKind.u64.wrap (a0)) t136 _ A6.out).mono ?_); rintro e w7 ⟨rfl, hb⟩; refine ⟨_, rfl, ?_⟩; have n0_ := Aside0.mk (below_step (by repeat (first | (with_reducible first | exact HB.out | apply below_alloc | apply pw_below_drewN | apply below_drew1) | exact HB.out)) hb); clear HB; have HB := n0_; clear n0_; (try clear hb); (try clear hb2); (try clear hk); (try clear hi)))
    go_ret
    exact ⟨by first | rfl | (simp [errW_none, errW_some] <;> rfl) | (simp [*, errW_none, errW_some] <;> rfl), by repeat (first | (with_reducible first | exact HB.out | apply below_alloc | apply pw_below_drewN | apply below_drew1) | exact HB.out)⟩
def marchlandref02_Word.f (a0 : Int) : Option (ByteArray) := (some (([(⟨#[111, 107]⟩ : ByteArray), (⟨#[97, 114, 103, 117, 109, 101, 110, 116]⟩ : ByteArray), (⟨#[112, 111, 114, 116]⟩ : ByteArray), (⟨#[99, 121, 99, 108, 101]⟩ : ByteArray), (⟨#[109, 97, 110, 121]⟩ : ByteArray), (⟨#[117, 110, 106, 117, 115, 116, 105, 102, 105, 101, 100]⟩ : ByteArray), (⟨#[98, 97, 99, 107]⟩ : ByteArray), (⟨#[115, 116, 97, 108, 101]⟩ : ByteArray), (⟨#[99, 108, 111, 115, 101, 100]⟩ : ByteArray), (⟨#[102, 117, 108, 108]⟩ : ByteArray), (⟨#[111, 118, 101, 114]⟩ : ByteArray), (⟨#[115, 116, 97, 116, 101]⟩ : ByteArray), (⟨#[102, 111, 114, 109]⟩ : ByteArray), (⟨#[119, 111, 114, 100]⟩ : ByteArray), (⟨#[110, 111, 110, 101]⟩ : ByteArray)] : List ByteArray) : List ByteArray)).bind fun y137 => (if a0 < 0 then (some (⟨#[117, 110, 107, 110, 111, 119, 110]⟩ : ByteArray)) else (if a0 ≥ (y137.length : Int) then (some (⟨#[117, 110, 107, 110, 111, 119, 110]⟩ : ByteArray)) else (if 0 ≤ a0 then (if a0 < (y137.length : Int) then (some (rdOf ByteArray.empty y137 a0)) else (none)) else (none))))
set_option maxHeartbeats 8000000 in
set_option maxRecDepth 100000 in
theorem marchlandref02_Word.calls (a0 : Int) (r : ByteArray) (w : World) (h : marchlandref02_Word.f a0 = some r) :
    Calls Tryd.prog 57 #[.int .i64 a0] w fun e w' => e = .returned (.string r) ∧ Below w.heap.size w w' := by
  have HB := Aside0.mk (Below.refl w.heap.size w)
  have H : ((some (([(⟨#[111, 107]⟩ : ByteArray), (⟨#[97, 114, 103, 117, 109, 101, 110, 116]⟩ : ByteArray), (⟨#[112, 111, 114, 116]⟩ : ByteArray), (⟨#[99, 121, 99, 108, 101]⟩ : ByteArray), (⟨#[109, 97, 110, 121]⟩ : ByteArray), (⟨#[117, 110, 106, 117, 115, 116, 105, 102, 105, 101, 100]⟩ : ByteArray), (⟨#[98, 97, 99, 107]⟩ : ByteArray), (⟨#[115, 116, 97, 108, 101]⟩ : ByteArray), (⟨#[99, 108, 111, 115, 101, 100]⟩ : ByteArray), (⟨#[102, 117, 108, 108]⟩ : ByteArray), (⟨#[111, 118, 101, 114]⟩ : ByteArray), (⟨#[115, 116, 97, 116, 101]⟩ : ByteArray), (⟨#[102, 111, 114, 109]⟩ : ByteArray), (⟨#[119, 111, 114, 100]⟩ : ByteArray), (⟨#[110, 111, 110, 101]⟩ : ByteArray)] : List ByteArray) : List ByteArray)).bind fun y137 => (if a0 < 0 then (some (⟨#[117, 110, 107, 110, 111, 119, 110]⟩ : ByteArray)) else (if a0 ≥ (y137.length : Int) then (some (⟨#[117, 110, 107, 110, 111, 119, 110]⟩ : ByteArray)) else (if 0 ≤ a0 then (if a0 < (y137.length : Int) then (some (rdOf ByteArray.empty y137 a0)) else (none)) else (none))))) = some r := h
  clear h
  obtain ⟨y137, hy137⟩ : ∃ y_ : List ByteArray, y_ = (([(⟨#[111, 107]⟩ : ByteArray), (⟨#[97, 114, 103, 117, 109, 101, 110, 116]⟩ : ByteArray), (⟨#[112, 111, 114, 116]⟩ : ByteArray), (⟨#[99, 121, 99, 108, 101]⟩ : ByteArray), (⟨#[109, 97, 110, 121]⟩ : ByteArray), (⟨#[117, 110, 106, 117, 115, 116, 105, 102, 105, 101, 100]⟩ : ByteArray), (⟨#[98, 97, 99, 107]⟩ : ByteArray), (⟨#[115, 116, 97, 108, 101]⟩ : ByteArray), (⟨#[99, 108, 111, 115, 101, 100]⟩ : ByteArray), (⟨#[102, 117, 108, 108]⟩ : ByteArray), (⟨#[111, 118, 101, 114]⟩ : ByteArray), (⟨#[115, 116, 97, 116, 101]⟩ : ByteArray), (⟨#[102, 111, 114, 109]⟩ : ByteArray), (⟨#[119, 111, 114, 100]⟩ : ByteArray), (⟨#[110, 111, 110, 101]⟩ : ByteArray)] : List ByteArray)) := ⟨_, rfl⟩
  replace H : (if a0 < 0 then (some (⟨#[117, 110, 107, 110, 111, 119, 110]⟩ : ByteArray)) else (if a0 ≥ (y137.length : Int) then (some (⟨#[117, 110, 107, 110, 111, 119, 110]⟩ : ByteArray)) else (if 0 ≤ a0 then (if a0 < (y137.length : Int) then (some (rdOf ByteArray.empty y137 a0)) else (none)) else (none)))) = some r := by first | (rw [hy137]; with_reducible exact H) | (have H2_ := (Option.bind_some _ _).symm.trans H; rw [hy137]; with_reducible exact H2_) | (have H2_ := (Option.bind_some _ _).symm.trans H; with_reducible exact H2_) | with_reducible exact H | (rw [hy137]; exact H) | exact H
  have Ny137 := Aside0.mk hy137
  clear hy137
  by_cases c2 : a0 < 0
  · rw [if_pos c2] at H
    have c2b0 : decide (a0 < 0) = true := decide_eq_true c2
    clear c2
    obtain rfl := Option.some.inj H
    go_enter Tryd.func57, Tryd.ntmps57
    go_wp2_with (first | ((with_reducible refine gate_dst (N := 4) rfl ?_); (try (refine gate_guard (by rfl) ?_; dsimp only)); refine Kd.R_lit Kd.string _ 9 ?hg (N := 4) ?hd (xs := ([(⟨#[111, 107]⟩ : ByteArray), (⟨#[97, 114, 103, 117, 109, 101, 110, 116]⟩ : ByteArray), (⟨#[112, 111, 114, 116]⟩ : ByteArray), (⟨#[99, 121, 99, 108, 101]⟩ : ByteArray), (⟨#[109, 97, 110, 121]⟩ : ByteArray), (⟨#[117, 110, 106, 117, 115, 116, 105, 102, 105, 101, 100]⟩ : ByteArray), (⟨#[98, 97, 99, 107]⟩ : ByteArray), (⟨#[115, 116, 97, 108, 101]⟩ : ByteArray), (⟨#[99, 108, 111, 115, 101, 100]⟩ : ByteArray), (⟨#[102, 117, 108, 108]⟩ : ByteArray), (⟨#[111, 118, 101, 114]⟩ : ByteArray), (⟨#[115, 116, 97, 116, 101]⟩ : ByteArray), (⟨#[102, 111, 114, 109]⟩ : ByteArray), (⟨#[119, 111, 114, 100]⟩ : ByteArray), (⟨#[110, 111, 110, 101]⟩ : ByteArray)] : List ByteArray)) (inner := [.string (⟨#[111, 107]⟩ : ByteArray), .string (⟨#[97, 114, 103, 117, 109, 101, 110, 116]⟩ : ByteArray), .string (⟨#[112, 111, 114, 116]⟩ : ByteArray), .string (⟨#[99, 121, 99, 108, 101]⟩ : ByteArray), .string (⟨#[109, 97, 110, 121]⟩ : ByteArray), .string (⟨#[117, 110, 106, 117, 115, 116, 105, 102, 105, 101, 100]⟩ : ByteArray), .string (⟨#[98, 97, 99, 107]⟩ : ByteArray), .string (⟨#[115, 116, 97, 108, 101]⟩ : ByteArray), .string (⟨#[99, 108, 111, 115, 101, 100]⟩ : ByteArray), .string (⟨#[102, 117, 108, 108]⟩ : ByteArray), .string (⟨#[111, 118, 101, 114]⟩ : ByteArray), .string (⟨#[115, 116, 97, 116, 101]⟩ : ByteArray), .string (⟨#[102, 111, 114, 109]⟩ : ByteArray), .string (⟨#[119, 111, 114, 100]⟩ : ByteArray), .string (⟨#[110, 111, 110, 101]⟩ : ByteArray)]) (ok := fun _ => True) (okp := fun _ => True) ?hr ?hp (fun _ hk => hk) trivial (Below.refl _ _) (Nat.le_refl _) (by simp) ?_; (case hd => rfl); (case hg => rfl); (case hr => first | (go_simp; done) | (go_simp; rfl)); (case hp => exact (Reps.one (show Kd.M Kd.string _ _ _ (⟨#[111, 107]⟩ : ByteArray) [.string (⟨#[111, 107]⟩ : ByteArray)] from rfl) (Reps.one (show Kd.M Kd.string _ _ _ (⟨#[97, 114, 103, 117, 109, 101, 110, 116]⟩ : ByteArray) [.string (⟨#[97, 114, 103, 117, 109, 101, 110, 116]⟩ : ByteArray)] from rfl) (Reps.one (show Kd.M Kd.string _ _ _ (⟨#[112, 111, 114, 116]⟩ : ByteArray) [.string (⟨#[112, 111, 114, 116]⟩ : ByteArray)] from rfl) (Reps.one (show Kd.M Kd.string _ _ _ (⟨#[99, 121, 99, 108, 101]⟩ : ByteArray) [.string (⟨#[99, 121, 99, 108, 101]⟩ : ByteArray)] from rfl) (Reps.one (show Kd.M Kd.string _ _ _ (⟨#[109, 97, 110, 121]⟩ : ByteArray) [.string (⟨#[109, 97, 110, 121]⟩ : ByteArray)] from rfl) (Reps.one (show Kd.M Kd.string _ _ _ (⟨#[117, 110, 106, 117, 115, 116, 105, 102, 105, 101, 100]⟩ : ByteArray) [.string (⟨#[117, 110, 106, 117, 115, 116, 105, 102, 105, 101, 100]⟩ : ByteArray)] from rfl) (Reps.one (show Kd.M Kd.string _ _ _ (⟨#[98, 97, 99, 107]⟩ : ByteArray) [.string (⟨#[98, 97, 99, 107]⟩ : ByteArray)] from rfl) (Reps.one (show Kd.M Kd.string _ _ _ (⟨#[115, 116, 97, 108, 101]⟩ : ByteArray) [.string (⟨#[115, 116, 97, 108, 101]⟩ : ByteArray)] from rfl) (Reps.one (show Kd.M Kd.string _ _ _ (⟨#[99, 108, 111, 115, 101, 100]⟩ : ByteArray) [.string (⟨#[99, 108, 111, 115, 101, 100]⟩ : ByteArray)] from rfl) (Reps.one (show Kd.M Kd.string _ _ _ (⟨#[102, 117, 108, 108]⟩ : ByteArray) [.string (⟨#[102, 117, 108, 108]⟩ : ByteArray)] from rfl) (Reps.one (show Kd.M Kd.string _ _ _ (⟨#[111, 118, 101, 114]⟩ : ByteArray) [.string (⟨#[111, 118, 101, 114]⟩ : ByteArray)] from rfl) (Reps.one (show Kd.M Kd.string _ _ _ (⟨#[115, 116, 97, 116, 101]⟩ : ByteArray) [.string (⟨#[115, 116, 97, 116, 101]⟩ : ByteArray)] from rfl) (Reps.one (show Kd.M Kd.string _ _ _ (⟨#[102, 111, 114, 109]⟩ : ByteArray) [.string (⟨#[102, 111, 114, 109]⟩ : ByteArray)] from rfl) (Reps.one (show Kd.M Kd.string _ _ _ (⟨#[119, 111, 114, 100]⟩ : ByteArray) [.string (⟨#[119, 111, 114, 100]⟩ : ByteArray)] from rfl) (Reps.one (show Kd.M Kd.string _ _ _ (⟨#[110, 111, 110, 101]⟩ : ByteArray) [.string (⟨#[110, 111, 110, 101]⟩ : ByteArray)] from rfl) (Reps.none _ _))))))))))))))))); intro v138 w3 ho4 hb hg_ hnew_; clear hg_ hnew_; (first | rw [← Ny137.out] at ho4 | (simp only [Int.reduceToNat] at ho4; rw [← Ny137.out] at ho4)); have n0_ := Aside0.mk (Kd.R_lower ho4 (below_size (by repeat (first | (with_reducible first | exact HB.out | apply below_alloc | apply pw_below_drewN | apply below_drew1) | exact HB.out)))); have n1_ := Aside0.mk (below_step (by repeat (first | (with_reducible first | exact HB.out | apply below_alloc | apply pw_below_drewN | apply below_drew1) | exact HB.out)) hb); clear HB; have HO139 := n0_; have HB := n1_; clear n0_ n1_; clear hb ho4))
    go_ret
    exact ⟨by first | rfl | (simp [errW_none, errW_some] <;> rfl) | (simp [*, errW_none, errW_some] <;> rfl), by repeat (first | (with_reducible first | exact HB.out | apply below_alloc | apply pw_below_drewN | apply below_drew1) | exact HB.out)⟩
  · rw [if_neg c2] at H
    have c2b0 : decide (a0 < 0) = false := decide_eq_false c2
    clear c2
    by_cases c5 : a0 ≥ (y137.length : Int)
    · rw [if_pos c5] at H
      have c5b0 : decide ((y137.length : Int) ≤ a0) = true := decide_eq_true c5
      clear c5
      obtain rfl := Option.some.inj H
      go_enter Tryd.func57, Tryd.ntmps57
      go_wp2_with (first | ((with_reducible refine gate_dst (N := 4) rfl ?_); (try (refine gate_guard (by rfl) ?_; dsimp only)); refine Kd.R_lit Kd.string _ 9 ?hg (N := 4) ?hd (xs := ([(⟨#[111, 107]⟩ : ByteArray), (⟨#[97, 114, 103, 117, 109, 101, 110, 116]⟩ : ByteArray), (⟨#[112, 111, 114, 116]⟩ : ByteArray), (⟨#[99, 121, 99, 108, 101]⟩ : ByteArray), (⟨#[109, 97, 110, 121]⟩ : ByteArray), (⟨#[117, 110, 106, 117, 115, 116, 105, 102, 105, 101, 100]⟩ : ByteArray), (⟨#[98, 97, 99, 107]⟩ : ByteArray), (⟨#[115, 116, 97, 108, 101]⟩ : ByteArray), (⟨#[99, 108, 111, 115, 101, 100]⟩ : ByteArray), (⟨#[102, 117, 108, 108]⟩ : ByteArray), (⟨#[111, 118, 101, 114]⟩ : ByteArray), (⟨#[115, 116, 97, 116, 101]⟩ : ByteArray), (⟨#[102, 111, 114, 109]⟩ : ByteArray), (⟨#[119, 111, 114, 100]⟩ : ByteArray), (⟨#[110, 111, 110, 101]⟩ : ByteArray)] : List ByteArray)) (inner := [.string (⟨#[111, 107]⟩ : ByteArray), .string (⟨#[97, 114, 103, 117, 109, 101, 110, 116]⟩ : ByteArray), .string (⟨#[112, 111, 114, 116]⟩ : ByteArray), .string (⟨#[99, 121, 99, 108, 101]⟩ : ByteArray), .string (⟨#[109, 97, 110, 121]⟩ : ByteArray), .string (⟨#[117, 110, 106, 117, 115, 116, 105, 102, 105, 101, 100]⟩ : ByteArray), .string (⟨#[98, 97, 99, 107]⟩ : ByteArray), .string (⟨#[115, 116, 97, 108, 101]⟩ : ByteArray), .string (⟨#[99, 108, 111, 115, 101, 100]⟩ : ByteArray), .string (⟨#[102, 117, 108, 108]⟩ : ByteArray), .string (⟨#[111, 118, 101, 114]⟩ : ByteArray), .string (⟨#[115, 116, 97, 116, 101]⟩ : ByteArray), .string (⟨#[102, 111, 114, 109]⟩ : ByteArray), .string (⟨#[119, 111, 114, 100]⟩ : ByteArray), .string (⟨#[110, 111, 110, 101]⟩ : ByteArray)]) (ok := fun _ => True) (okp := fun _ => True) ?hr ?hp (fun _ hk => hk) trivial (Below.refl _ _) (Nat.le_refl _) (by simp) ?_; (case hd => rfl); (case hg => rfl); (case hr => first | (go_simp; done) | (go_simp; rfl)); (case hp => exact (Reps.one (show Kd.M Kd.string _ _ _ (⟨#[111, 107]⟩ : ByteArray) [.string (⟨#[111, 107]⟩ : ByteArray)] from rfl) (Reps.one (show Kd.M Kd.string _ _ _ (⟨#[97, 114, 103, 117, 109, 101, 110, 116]⟩ : ByteArray) [.string (⟨#[97, 114, 103, 117, 109, 101, 110, 116]⟩ : ByteArray)] from rfl) (Reps.one (show Kd.M Kd.string _ _ _ (⟨#[112, 111, 114, 116]⟩ : ByteArray) [.string (⟨#[112, 111, 114, 116]⟩ : ByteArray)] from rfl) (Reps.one (show Kd.M Kd.string _ _ _ (⟨#[99, 121, 99, 108, 101]⟩ : ByteArray) [.string (⟨#[99, 121, 99, 108, 101]⟩ : ByteArray)] from rfl) (Reps.one (show Kd.M Kd.string _ _ _ (⟨#[109, 97, 110, 121]⟩ : ByteArray) [.string (⟨#[109, 97, 110, 121]⟩ : ByteArray)] from rfl) (Reps.one (show Kd.M Kd.string _ _ _ (⟨#[117, 110, 106, 117, 115, 116, 105, 102, 105, 101, 100]⟩ : ByteArray) [.string (⟨#[117, 110, 106, 117, 115, 116, 105, 102, 105, 101, 100]⟩ : ByteArray)] from rfl) (Reps.one (show Kd.M Kd.string _ _ _ (⟨#[98, 97, 99, 107]⟩ : ByteArray) [.string (⟨#[98, 97, 99, 107]⟩ : ByteArray)] from rfl) (Reps.one (show Kd.M Kd.string _ _ _ (⟨#[115, 116, 97, 108, 101]⟩ : ByteArray) [.string (⟨#[115, 116, 97, 108, 101]⟩ : ByteArray)] from rfl) (Reps.one (show Kd.M Kd.string _ _ _ (⟨#[99, 108, 111, 115, 101, 100]⟩ : ByteArray) [.string (⟨#[99, 108, 111, 115, 101, 100]⟩ : ByteArray)] from rfl) (Reps.one (show Kd.M Kd.string _ _ _ (⟨#[102, 117, 108, 108]⟩ : ByteArray) [.string (⟨#[102, 117, 108, 108]⟩ : ByteArray)] from rfl) (Reps.one (show Kd.M Kd.string _ _ _ (⟨#[111, 118, 101, 114]⟩ : ByteArray) [.string (⟨#[111, 118, 101, 114]⟩ : ByteArray)] from rfl) (Reps.one (show Kd.M Kd.string _ _ _ (⟨#[115, 116, 97, 116, 101]⟩ : ByteArray) [.string (⟨#[115, 116, 97, 116, 101]⟩ : ByteArray)] from rfl) (Reps.one (show Kd.M Kd.string _ _ _ (⟨#[102, 111, 114, 109]⟩ : ByteArray) [.string (⟨#[102, 111, 114, 109]⟩ : ByteArray)] from rfl) (Reps.one (show Kd.M Kd.string _ _ _ (⟨#[119, 111, 114, 100]⟩ : ByteArray) [.string (⟨#[119, 111, 114, 100]⟩ : ByteArray)] from rfl) (Reps.one (show Kd.M Kd.string _ _ _ (⟨#[110, 111, 110, 101]⟩ : ByteArray) [.string (⟨#[110, 111, 110, 101]⟩ : ByteArray)] from rfl) (Reps.none _ _))))))))))))))))); intro v138 w6 ho7 hb hg_ hnew_; clear hg_ hnew_; (first | rw [← Ny137.out] at ho7 | (simp only [Int.reduceToNat] at ho7; rw [← Ny137.out] at ho7)); have n0_ := Aside0.mk (Kd.R_lower ho7 (below_size (by repeat (first | (with_reducible first | exact HB.out | apply below_alloc | apply pw_below_drewN | apply below_drew1) | exact HB.out)))); have n1_ := Aside0.mk (below_step (by repeat (first | (with_reducible first | exact HB.out | apply below_alloc | apply pw_below_drewN | apply below_drew1) | exact HB.out)) hb); clear HB; have HO139 := n0_; have HB := n1_; clear n0_ n1_; clear hb ho7; obtain ⟨Ao8, co8, eo8⟩ := Kd.R_slice HO139.out; subst eo8))
      go_ret
      exact ⟨by first | rfl | (simp [errW_none, errW_some] <;> rfl) | (simp [*, errW_none, errW_some] <;> rfl), by repeat (first | (with_reducible first | exact HB.out | apply below_alloc | apply pw_below_drewN | apply below_drew1) | exact HB.out)⟩
    · rw [if_neg c5] at H
      have c5b0 : decide ((y137.length : Int) ≤ a0) = false := decide_eq_false c5
      clear c5
      by_cases c9 : 0 ≤ a0
      · rw [if_pos c9] at H
        have c9b0 : decide (0 ≤ a0) = true := decide_eq_true c9
        clear c9
        by_cases c10 : a0 < (y137.length : Int)
        · rw [if_pos c10] at H
          have c10b0 : decide (a0 < (y137.length : Int)) = true := decide_eq_true c10
          clear c10
          obtain rfl := Option.some.inj H
          go_enter Tryd.func57, Tryd.ntmps57
          go_wp2_with (first | ((with_reducible refine gate_dst (N := 4) rfl ?_); (try (refine gate_guard (by rfl) ?_; dsimp only)); refine Kd.R_lit Kd.string _ 9 ?hg (N := 4) ?hd (xs := ([(⟨#[111, 107]⟩ : ByteArray), (⟨#[97, 114, 103, 117, 109, 101, 110, 116]⟩ : ByteArray), (⟨#[112, 111, 114, 116]⟩ : ByteArray), (⟨#[99, 121, 99, 108, 101]⟩ : ByteArray), (⟨#[109, 97, 110, 121]⟩ : ByteArray), (⟨#[117, 110, 106, 117, 115, 116, 105, 102, 105, 101, 100]⟩ : ByteArray), (⟨#[98, 97, 99, 107]⟩ : ByteArray), (⟨#[115, 116, 97, 108, 101]⟩ : ByteArray), (⟨#[99, 108, 111, 115, 101, 100]⟩ : ByteArray), (⟨#[102, 117, 108, 108]⟩ : ByteArray), (⟨#[111, 118, 101, 114]⟩ : ByteArray), (⟨#[115, 116, 97, 116, 101]⟩ : ByteArray), (⟨#[102, 111, 114, 109]⟩ : ByteArray), (⟨#[119, 111, 114, 100]⟩ : ByteArray), (⟨#[110, 111, 110, 101]⟩ : ByteArray)] : List ByteArray)) (inner := [.string (⟨#[111, 107]⟩ : ByteArray), .string (⟨#[97, 114, 103, 117, 109, 101, 110, 116]⟩ : ByteArray), .string (⟨#[112, 111, 114, 116]⟩ : ByteArray), .string (⟨#[99, 121, 99, 108, 101]⟩ : ByteArray), .string (⟨#[109, 97, 110, 121]⟩ : ByteArray), .string (⟨#[117, 110, 106, 117, 115, 116, 105, 102, 105, 101, 100]⟩ : ByteArray), .string (⟨#[98, 97, 99, 107]⟩ : ByteArray), .string (⟨#[115, 116, 97, 108, 101]⟩ : ByteArray), .string (⟨#[99, 108, 111, 115, 101, 100]⟩ : ByteArray), .string (⟨#[102, 117, 108, 108]⟩ : ByteArray), .string (⟨#[111, 118, 101, 114]⟩ : ByteArray), .string (⟨#[115, 116, 97, 116, 101]⟩ : ByteArray), .string (⟨#[102, 111, 114, 109]⟩ : ByteArray), .string (⟨#[119, 111, 114, 100]⟩ : ByteArray), .string (⟨#[110, 111, 110, 101]⟩ : ByteArray)]) (ok := fun _ => True) (okp := fun _ => True) ?hr ?hp (fun _ hk => hk) trivial (Below.refl _ _) (Nat.le_refl _) (by simp) ?_; (case hd => rfl); (case hg => rfl); (case hr => first | (go_simp; done) | (go_simp; rfl)); (case hp => exact (Reps.one (show Kd.M Kd.string _ _ _ (⟨#[111, 107]⟩ : ByteArray) [.string (⟨#[111, 107]⟩ : ByteArray)] from rfl) (Reps.one (show Kd.M Kd.string _ _ _ (⟨#[97, 114, 103, 117, 109, 101, 110, 116]⟩ : ByteArray) [.string (⟨#[97, 114, 103, 117, 109, 101, 110, 116]⟩ : ByteArray)] from rfl) (Reps.one (show Kd.M Kd.string _ _ _ (⟨#[112, 111, 114, 116]⟩ : ByteArray) [.string (⟨#[112, 111, 114, 116]⟩ : ByteArray)] from rfl) (Reps.one (show Kd.M Kd.string _ _ _ (⟨#[99, 121, 99, 108, 101]⟩ : ByteArray) [.string (⟨#[99, 121, 99, 108, 101]⟩ : ByteArray)] from rfl) (Reps.one (show Kd.M Kd.string _ _ _ (⟨#[109, 97, 110, 121]⟩ : ByteArray) [.string (⟨#[109, 97, 110, 121]⟩ : ByteArray)] from rfl) (Reps.one (show Kd.M Kd.string _ _ _ (⟨#[117, 110, 106, 117, 115, 116, 105, 102, 105, 101, 100]⟩ : ByteArray) [.string (⟨#[117, 110, 106, 117, 115, 116, 105, 102, 105, 101, 100]⟩ : ByteArray)] from rfl) (Reps.one (show Kd.M Kd.string _ _ _ (⟨#[98, 97, 99, 107]⟩ : ByteArray) [.string (⟨#[98, 97, 99, 107]⟩ : ByteArray)] from rfl) (Reps.one (show Kd.M Kd.string _ _ _ (⟨#[115, 116, 97, 108, 101]⟩ : ByteArray) [.string (⟨#[115, 116, 97, 108, 101]⟩ : ByteArray)] from rfl) (Reps.one (show Kd.M Kd.string _ _ _ (⟨#[99, 108, 111, 115, 101, 100]⟩ : ByteArray) [.string (⟨#[99, 108, 111, 115, 101, 100]⟩ : ByteArray)] from rfl) (Reps.one (show Kd.M Kd.string _ _ _ (⟨#[102, 117, 108, 108]⟩ : ByteArray) [.string (⟨#[102, 117, 108, 108]⟩ : ByteArray)] from rfl) (Reps.one (show Kd.M Kd.string _ _ _ (⟨#[111, 118, 101, 114]⟩ : ByteArray) [.string (⟨#[111, 118, 101, 114]⟩ : ByteArray)] from rfl) (Reps.one (show Kd.M Kd.string _ _ _ (⟨#[115, 116, 97, 116, 101]⟩ : ByteArray) [.string (⟨#[115, 116, 97, 116, 101]⟩ : ByteArray)] from rfl) (Reps.one (show Kd.M Kd.string _ _ _ (⟨#[102, 111, 114, 109]⟩ : ByteArray) [.string (⟨#[102, 111, 114, 109]⟩ : ByteArray)] from rfl) (Reps.one (show Kd.M Kd.string _ _ _ (⟨#[119, 111, 114, 100]⟩ : ByteArray) [.string (⟨#[119, 111, 114, 100]⟩ : ByteArray)] from rfl) (Reps.one (show Kd.M Kd.string _ _ _ (⟨#[110, 111, 110, 101]⟩ : ByteArray) [.string (⟨#[110, 111, 110, 101]⟩ : ByteArray)] from rfl) (Reps.none _ _))))))))))))))))); intro v138 w11 ho12 hb hg_ hnew_; clear hg_ hnew_; (first | rw [← Ny137.out] at ho12 | (simp only [Int.reduceToNat] at ho12; rw [← Ny137.out] at ho12)); have n0_ := Aside0.mk (Kd.R_lower ho12 (below_size (by repeat (first | (with_reducible first | exact HB.out | apply below_alloc | apply pw_below_drewN | apply below_drew1) | exact HB.out)))); have n1_ := Aside0.mk (below_step (by repeat (first | (with_reducible first | exact HB.out | apply below_alloc | apply pw_below_drewN | apply below_drew1) | exact HB.out)) hb); clear HB; have HO139 := n0_; have HB := n1_; clear n0_ n1_; clear hb ho12; obtain ⟨Ao13, co13, eo13⟩ := Kd.R_slice HO139.out; subst eo13; have p140 : 0 ≤ (a0 : Int) := of_decide_eq_true (by first | (with_reducible assumption) | assumption); have q140 : a0 < (y137.length : Int) := of_decide_eq_true (by first | (with_reducible assumption) | assumption); obtain ⟨ad140, e140, hx140_0⟩ := Kd.at_string (Kd.R_reads' HO139.out).2.2 a0 p140 q140; cases e140; replace p140 := eq_true p140; replace q140 := eq_true q140))
          go_ret
          exact ⟨by first | rfl | (simp [errW_none, errW_some] <;> rfl) | (simp [*, errW_none, errW_some] <;> rfl), by repeat (first | (with_reducible first | exact HB.out | apply below_alloc | apply pw_below_drewN | apply below_drew1) | exact HB.out)⟩
        · rw [if_neg c10] at H
          exact absurd H (by simp)
      · rw [if_neg c9] at H
        exact absurd H (by simp)
def marchlandref02_Text.l0 : Nat → List (S42) → Int → ByteArray → Int → Option (ByteArray)
  | 0, _, _, _, _ => none
  | k + 1, x0, x1, x5, x6 => if x6 < (x0.length : Int) then (if 0 ≤ x6 then (if x5.size + ((rd_T42 x0 x6).f0).size ≤ 9223372036854775807 then (if (x5 ++ ((rd_T42 x0 x6).f0)).size + 1 ≤ 9223372036854775807 then ((marchlandref02_Num.f k ((rd_T42 x0 x6).f1)).bind fun t143 => (if ((x5 ++ ((rd_T42 x0 x6).f0)) ++ (⟨#[32]⟩ : ByteArray)).size + t143.size ≤ 9223372036854775807 then (if (((x5 ++ ((rd_T42 x0 x6).f0)) ++ (⟨#[32]⟩ : ByteArray)) ++ t143).size + 2 ≤ 9223372036854775807 then (marchlandref02_Text.l0 k x0 x1 ((((x5 ++ ((rd_T42 x0 x6).f0)) ++ (⟨#[32]⟩ : ByteArray)) ++ t143) ++ (⟨#[58, 32]⟩ : ByteArray)) (wrap64 (x6 + 1))) else (none)) else (none))) else (none)) else (none)) else (none)) else ((marchlandref02_Word.f x1).bind fun t144 => (if x5.size + t144.size ≤ 9223372036854775807 then (some (x5 ++ t144)) else (none)))
def marchlandref02_Text.f (k : Nat) (l0 : List (S42)) (a1 : Int) : Option (ByteArray) := marchlandref02_Text.l0 k l0 a1 (⟨#[]⟩ : ByteArray) 0
def marchlandref02_Text.T5 : Bool × List (List Nat × List Nat) := (true, [([], []), ([], []), ([], []), ([1, 2], [1, 2]), ([3], [3]), ([4], [4]), ([0, 5], [0, 5]), ([6], [6]), ([], []), ([], []), ([8, 9], [8, 9]), ([10], [10]), ([11], [11]), ([12], [12]), ([7, 13], [7, 13]), ([14], [14]), ([15, 13, 0, 1, 2, 3, 4, 5, 6, 7, 8, 9, 10, 11, 12, 13, 14, 15], [0, 15])])
def marchlandref02_Text.B5 : List Nat := [0, 0, 0, 6, 14, 30, 63, 127, 0, 0, 768, 1792, 3840, 7936, 16383, 32767, 65535]
theorem marchlandref02_Text.tab5 : rtab .any (opsOf Tryd.f23 5) = marchlandref02_Text.T5 := by kernel_rfl
theorem marchlandref02_Text.bits5 : waitsOk marchlandref02_Text.T5.2 marchlandref02_Text.B5 = true := by kernel_rfl
set_option maxHeartbeats 8000000 in
set_option maxRecDepth 100000 in
theorem marchlandref02_Text.calls (k : Nat) (A0 : Option Addr) (c0 : Nat) (l0 : List (S42)) (a1 : Int) (r : ByteArray) (w : World) (hr0 : Kd.C k42 w A0 l0.length l0) (hc0 : l0.length ≤ c0) (h : marchlandref02_Text.f k l0 a1 = some r) :
    Calls Tryd.prog 23 #[.slice A0 l0.length c0, .int .i64 a1] w fun e w' => e = .returned (.string r) ∧ Below w.heap.size w w' := by
  have HR0 := Aside0.mk hr0
  have HC0 := Aside0.mk hc0
  clear hr0 hc0
  have HB := Aside0.mk (Below.refl w.heap.size w)
  have H : (marchlandref02_Text.l0 k l0 a1 (⟨#[]⟩ : ByteArray) 0) = some r := h
  clear h
  have H' := Aside0.mk H
  clear H
  go_enter Tryd.func23, Tryd.ntmps23
  go_wp2
  go_loopg [5, 6] k (fun kq v5 v6 w' => ∃ (x5_1 : ByteArray) (x6_1 : Int), v5 = .string x5_1 ∧ v6 = .int .i64 x6_1 ∧ Aside0 (marchlandref02_Text.l0 kq l0 a1 x5_1 x6_1 = some r) ∧ Aside0 (kq ≤ k) ∧ Aside0 (Below w.heap.size w w'))
  case atStart => exact ⟨((⟨#[]⟩ : ByteArray)), (0), (by first | rfl | (simp; done) | (simp [*]; done)), (by first | rfl | (simp; done) | (simp [*]; done)), H', ⟨Nat.le_refl _⟩, ⟨by repeat (first | (with_reducible first | exact HB.out | apply below_alloc | apply pw_below_drewN | apply below_drew1) | exact HB.out)⟩⟩
  case round =>
    clear H'
    try clear c2
    try clear p2
    obtain ⟨x5_1, x6_1, rfl, rfl, HA, HK1, HB⟩ := hrel
    cases gk with
    | zero => exact absurd HA.out (by simp [marchlandref02_Text.l0])
    | succ k1 =>
      have H := HA.out
      clear HA
      simp only [marchlandref02_Text.l0] at H
      by_cases c3 : x6_1 < (l0.length : Int)
      · rw [if_pos c3] at H
        have c3b0 : decide (x6_1 < (l0.length : Int)) = true := decide_eq_true c3
        clear c3
        by_cases c4 : 0 ≤ x6_1
        · rw [if_pos c4] at H
          have c4b0 : decide (0 ≤ x6_1) = true := decide_eq_true c4
          clear c4
          by_cases c5 : x5_1.size + ((rd_T42 l0 x6_1).f0).size ≤ 9223372036854775807
          · rw [if_pos c5] at H
            have c5b0 := eq_true c5
            have c5b1 : decide (x5_1.size + ((rd_T42 l0 x6_1).f0).size ≤ 9223372036854775807) = true := decide_eq_true c5
            try have c5b2 : (9223372036854775807 < x5_1.size + ((rd_T42 l0 x6_1).f0).size) = False := eq_false (Nat.not_lt.2 c5)
            by_cases c6 : (x5_1 ++ ((rd_T42 l0 x6_1).f0)).size + 1 ≤ 9223372036854775807
            · rw [if_pos c6] at H
              have c6b0 := eq_true c6
              have c6b1 : decide ((x5_1 ++ ((rd_T42 l0 x6_1).f0)).size + 1 ≤ 9223372036854775807) = true := decide_eq_true c6
              try have c6b2 : (9223372036854775807 < (x5_1 ++ ((rd_T42 l0 x6_1).f0)).size + 1) = False := eq_false (Nat.not_lt.2 c6)
              have c6b3 : (9223372036854775807 < x5_1.size + (rd_T42 l0 x6_1).f0.size + 1) = False := eq_false (by have h_ := c6; have e1_ : (⟨#[32]⟩ : ByteArray).size = 1 := rfl; have e2_ : (⟨#[58, 32]⟩ : ByteArray).size = 2 := rfl; simp only [ByteArray.size_append] at h_; omega)
              replace H := Option.bind_eq_some_iff.mp H
              obtain ⟨t143, A70, H⟩ := H
              replace H : (if ((x5_1 ++ ((rd_T42 l0 x6_1).f0)) ++ (⟨#[32]⟩ : ByteArray)).size + t143.size ≤ 9223372036854775807 then (if (((x5_1 ++ ((rd_T42 l0 x6_1).f0)) ++ (⟨#[32]⟩ : ByteArray)) ++ t143).size + 2 ≤ 9223372036854775807 then (marchlandref02_Text.l0 k1 l0 a1 ((((x5_1 ++ ((rd_T42 l0 x6_1).f0)) ++ (⟨#[32]⟩ : ByteArray)) ++ t143) ++ (⟨#[58, 32]⟩ : ByteArray)) (wrap64 (x6_1 + 1))) else (none)) else (none)) = some r := H
              have A7 := Aside0.mk A70
              clear A70
              by_cases c8 : ((x5_1 ++ ((rd_T42 l0 x6_1).f0)) ++ (⟨#[32]⟩ : ByteArray)).size + t143.size ≤ 9223372036854775807
              · rw [if_pos c8] at H
                have c8b0 := eq_true c8
                have c8b1 : decide (((x5_1 ++ ((rd_T42 l0 x6_1).f0)) ++ (⟨#[32]⟩ : ByteArray)).size + t143.size ≤ 9223372036854775807) = true := decide_eq_true c8
                try have c8b2 : (9223372036854775807 < ((x5_1 ++ ((rd_T42 l0 x6_1).f0)) ++ (⟨#[32]⟩ : ByteArray)).size + t143.size) = False := eq_false (Nat.not_lt.2 c8)
                have c8b3 : (9223372036854775807 < x5_1.size + (rd_T42 l0 x6_1).f0.size + 1 + t143.size) = False := eq_false (by have h_ := c8; have e1_ : (⟨#[32]⟩ : ByteArray).size = 1 := rfl; have e2_ : (⟨#[58, 32]⟩ : ByteArray).size = 2 := rfl; simp only [ByteArray.size_append] at h_; omega)
                by_cases c9 : (((x5_1 ++ ((rd_T42 l0 x6_1).f0)) ++ (⟨#[32]⟩ : ByteArray)) ++ t143).size + 2 ≤ 9223372036854775807
                · rw [if_pos c9] at H
                  have c9b0 := eq_true c9
                  have c9b1 : decide ((((x5_1 ++ ((rd_T42 l0 x6_1).f0)) ++ (⟨#[32]⟩ : ByteArray)) ++ t143).size + 2 ≤ 9223372036854775807) = true := decide_eq_true c9
                  try have c9b2 : (9223372036854775807 < (((x5_1 ++ ((rd_T42 l0 x6_1).f0)) ++ (⟨#[32]⟩ : ByteArray)) ++ t143).size + 2) = False := eq_false (Nat.not_lt.2 c9)
                  have c9b3 : (9223372036854775807 < x5_1.size + (rd_T42 l0 x6_1).f0.size + 1 + t143.size + 2) = False := eq_false (by have h_ := c9; have e1_ : (⟨#[32]⟩ : ByteArray).size = 1 := rfl; have e2_ : (⟨#[58, 32]⟩ : ByteArray).size = 2 := rfl; simp only [ByteArray.size_append] at h_; omega)
                  have H' := Aside0.mk H
                  clear H
                  try go_wp2
                  have n0_ := Aside0.mk (below_drew1 HB.out)
                  clear HB
                  have HB := n0_
                  clear n0_
                  have p141 : 0 ≤ (x6_1 : Int) := of_decide_eq_true (by first | (with_reducible assumption) | assumption)
                  have q141 : x6_1 < (l0.length : Int) := of_decide_eq_true (by first | (with_reducible assumption) | assumption)
                  obtain ⟨ad141, e141, hx141_0, hx141_1⟩ := at_T42 HR0.out x6_1 p141 q141
                  have hw141_1 := hx141_1
                  have hw141_0 := hx141_0
                  cases e141
                  replace hx141_0 := (HB.out.cell (World.block_lt_of_cell? w _ hx141_0)).trans hx141_0
                  replace hx141_1 := (HB.out.cell (World.block_lt_of_cell? w _ hx141_1)).trans hx141_1
                  replace p141 := eq_true p141
                  replace q141 := eq_true q141
                  have p142 : 0 ≤ (x6_1 : Int) := of_decide_eq_true (by first | (with_reducible assumption) | assumption)
                  have q142 : x6_1 < (l0.length : Int) := of_decide_eq_true (by first | (with_reducible assumption) | assumption)
                  obtain ⟨ad142, e142, hx142_0, hx142_1⟩ := at_T42 HR0.out x6_1 p142 q142
                  have hw142_1 := hx142_1
                  have hw142_0 := hx142_0
                  obtain rfl : ad141 = ad142 := (by injection e142)
                  replace hx142_0 := (HB.out.cell (World.block_lt_of_cell? w _ hx142_0)).trans hx142_0
                  replace hx142_1 := (HB.out.cell (World.block_lt_of_cell? w _ hx142_1)).trans hx142_1
                  replace p142 := eq_true p142
                  replace q142 := eq_true q142
                  refine start_ (n := 17) (S := fun w' => w'.cell? (ad141.add ((x6_1).toNat * 2)) = some (.string ((rd_T42 l0 x6_1).f0)) ∧ w'.cell? ⟨(ad141.add ((x6_1).toNat * 2)).block, (ad141.add ((x6_1).toNat * 2)).off + 1, none⟩ = some (.int .i64 ((rd_T42 l0 x6_1).f1)) ∧ w'.cell? (ad141.add ((x6_1).toNat * 2)) = some (.string ((rd_T42 l0 x6_1).f0)) ∧ w'.cell? ⟨(ad141.add ((x6_1).toNat * 2)).block, (ad141.add ((x6_1).toNat * 2)).off + 1, none⟩ = some (.int .i64 ((rd_T42 l0 x6_1).f1))) (ds := []) #[false, false, false, false, false, false, false, false, false, false, false, false, false, false, false, false, false] (by kernel_rfl) rfl rfl ⟨((HB.out.cell (World.block_lt_of_cell? w _ hw141_0)).trans hw141_0), ((HB.out.cell (World.block_lt_of_cell? w _ hw141_1)).trans hw141_1), ((HB.out.cell (World.block_lt_of_cell? w _ hw142_0)).trans hw142_0), ((HB.out.cell (World.block_lt_of_cell? w _ hw142_1)).trans hw142_1)⟩ (fun hHeld => ?_); refine with_tabW marchlandref02_Text.tab5 marchlandref02_Text.bits5 (fun HT_ HW_ => ?_)
                  generalize wr.drew = w10 at HB hx141_0 hx141_1 hx142_0 hx142_1 hHeld ⊢
                  refine pure_ (i := 0) (N := some 13) (v := ?_) (a' := ?_) #[true, false, false, false, false, false, false, false, false, false, false, false, false, false, false, false, false] rfl rfl (any_of HT_.out (by kernel_rfl)) (fun _ _ _ h => h) (Or.inl ⟨by rfl, ?_⟩) ?_ ?_
                  rotate_left
                  · intro w'
                    go_simp
                    with_reducible rfl
                  rotate_left
                  · simp only [Act.put, List.setIfInBounds_toArray, List.set_cons_zero, List.set_cons_succ, i64_w, i32_w]
                    rfl
                  refine pure_ (i := 1) (N := some 14) (v := ?_) (a' := ?_) #[true, true, false, false, false, false, false, false, false, false, false, false, false, false, false, false, false] rfl rfl (any_of HT_.out (by kernel_rfl)) (fun _ _ _ h => h) (Or.inl ⟨by rfl, ?_⟩) ?_ ?_
                  rotate_left
                  · intro w'
                    go_simp
                    with_reducible rfl
                  rotate_left
                  · simp only [Act.put, List.setIfInBounds_toArray, List.set_cons_zero, List.set_cons_succ, i64_w, i32_w]
                    rfl
                  refine pure_ (i := 2) (N := some 15) (v := ?_) (a' := ?_) #[true, true, true, false, false, false, false, false, false, false, false, false, false, false, false, false, false] rfl rfl (any_of HT_.out (by kernel_rfl)) (fun _ _ _ h => h) (Or.inl ⟨by rfl, ?_⟩) ?_ ?_
                  rotate_left
                  · intro w'
                    go_simp
                    with_reducible rfl
                  rotate_left
                  · simp only [Act.put, List.setIfInBounds_toArray, List.set_cons_zero, List.set_cons_succ, i64_w, i32_w]
                    rfl
                  refine pure_ (i := 3) (N := some 16) (v := ?_) (a' := ?_) #[true, true, true, true, false, false, false, false, false, false, false, false, false, false, false, false, false] rfl rfl (any_of HT_.out (by kernel_rfl)) (fun _ _ _ h => h) (Or.inl ⟨by rfl, ?_⟩) ?_ ?_
                  rotate_left
                  · intro w'
                    go_simp
                    with_reducible rfl
                  rotate_left
                  · simp only [Act.put, List.setIfInBounds_toArray, List.set_cons_zero, List.set_cons_succ, i64_w, i32_w]
                    rfl
                  refine pure_ (i := 4) (N := some 17) (v := ?_) (a' := ?_) #[true, true, true, true, true, false, false, false, false, false, false, false, false, false, false, false, false] rfl rfl (any_of HT_.out (by kernel_rfl)) (fun _ _ _ h => h) (Or.inl ⟨by rfl, ?_⟩) ?_ ?_
                  rotate_left
                  · intro w'
                    go_simp
                    with_reducible rfl
                  rotate_left
                  · simp only [Act.put, List.setIfInBounds_toArray, List.set_cons_zero, List.set_cons_succ, i64_w, i32_w]
                    rfl
                  refine pure_ (i := 8) (N := some 21) (v := ?_) (a' := ?_) #[true, true, true, true, true, false, false, false, true, false, false, false, false, false, false, false, false] rfl rfl (any_of HT_.out (by kernel_rfl)) (fun _ _ _ h => h) (Or.inl ⟨by rfl, ?_⟩) ?_ ?_
                  rotate_left
                  · intro w'
                    go_simp
                    with_reducible rfl
                  rotate_left
                  · simp only [Act.put, List.setIfInBounds_toArray, List.set_cons_zero, List.set_cons_succ, i64_w, i32_w]
                    rfl
                  refine pure_ (i := 9) (N := some 22) (v := ?_) (a' := ?_) #[true, true, true, true, true, false, false, false, true, true, false, false, false, false, false, false, false] rfl rfl (any_of HT_.out (by kernel_rfl)) (fun _ _ _ h => h) (Or.inl ⟨by rfl, ?_⟩) ?_ ?_
                  rotate_left
                  · intro w'
                    go_simp
                    with_reducible rfl
                  rotate_left
                  · simp only [Act.put, List.setIfInBounds_toArray, List.set_cons_zero, List.set_cons_succ, i64_w, i32_w]
                    rfl
                  refine pure_ (i := 10) (N := some 23) (v := ?_) (a' := ?_) #[true, true, true, true, true, false, false, false, true, true, true, false, false, false, false, false, false] rfl rfl (any_of HT_.out (by kernel_rfl)) (fun _ _ _ h => h) (Or.inl ⟨by rfl, ?_⟩) ?_ ?_
                  rotate_left
                  · intro w'
                    go_simp
                    with_reducible rfl
                  rotate_left
                  · simp only [Act.put, List.setIfInBounds_toArray, List.set_cons_zero, List.set_cons_succ, i64_w, i32_w]
                    rfl
                  refine pure_ (i := 11) (N := some 24) (v := ?_) (a' := ?_) #[true, true, true, true, true, false, false, false, true, true, true, true, false, false, false, false, false] rfl rfl (any_of HT_.out (by kernel_rfl)) (fun _ _ _ h => h) (Or.inl ⟨by rfl, ?_⟩) ?_ ?_
                  rotate_left
                  · intro w'
                    go_simp
                    with_reducible rfl
                  rotate_left
                  · simp only [Act.put, List.setIfInBounds_toArray, List.set_cons_zero, List.set_cons_succ, i64_w, i32_w]
                    rfl
                  refine take_ (i := 5) (N := some 18) (v := ?_) (a' := ?_) #[true, true, true, true, true, true, false, false, true, true, true, true, false, false, false, false, false] rfl rfl (take_ofW HT_.out HW_.out (by kernel_rfl)) (fun _ _ _ h => h) (Or.inl ⟨by rfl, ?_⟩) hHeld ?_ ?_
                  rotate_left
                  · rintro w' ⟨s0, s1, s2, s3⟩
                    go_simp
                    with_reducible rfl
                  rotate_left
                  · simp only [Act.put, List.setIfInBounds_toArray, List.set_cons_zero, List.set_cons_succ, i64_w, i32_w]
                    rfl
                  refine pure_ (i := 6) (N := some 19) (v := ?_) (a' := ?_) #[true, true, true, true, true, true, true, false, true, true, true, true, false, false, false, false, false] rfl rfl (any_of HT_.out (by kernel_rfl)) (fun _ _ _ h => h) (Or.inl ⟨by rfl, ?_⟩) ?_ ?_
                  rotate_left
                  · intro w'
                    go_simp
                    with_reducible rfl
                  rotate_left
                  · simp only [Act.put, List.setIfInBounds_toArray, List.set_cons_zero, List.set_cons_succ, i64_w, i32_w]
                    rfl
                  refine pure_ (i := 7) (N := some 20) (v := ?_) (a' := ?_) #[true, true, true, true, true, true, true, true, true, true, true, true, false, false, false, false, false] rfl rfl (any_of HT_.out (by kernel_rfl)) (fun _ _ _ h => h) (Or.inl ⟨by rfl, ?_⟩) ?_ ?_
                  rotate_left
                  · intro w'
                    go_simp
                    with_reducible rfl
                  rotate_left
                  · simp only [Act.put, List.setIfInBounds_toArray, List.set_cons_zero, List.set_cons_succ, i64_w, i32_w]
                    rfl
                  refine take_ (i := 12) (N := some 25) (v := ?_) (a' := ?_) #[true, true, true, true, true, true, true, true, true, true, true, true, true, false, false, false, false] rfl rfl (take_ofW HT_.out HW_.out (by kernel_rfl)) (fun _ _ _ h => h) (Or.inl ⟨by rfl, ?_⟩) hHeld ?_ ?_
                  rotate_left
                  · rintro w' ⟨s0, s1, s2, s3⟩
                    go_simp
                    with_reducible rfl
                  rotate_left
                  · simp only [Act.put, List.setIfInBounds_toArray, List.set_cons_zero, List.set_cons_succ, i64_w, i32_w]
                    rfl
                  refine one_ (i := 13) (N := some 26) #[true, true, true, true, true, true, true, true, true, true, true, true, true, true, false, false, false] rfl rfl (one_of HT_.out (by kernel_rfl)) (by decide) (fun K hK => ?_)
                  refine goes_ Tryd.func56 (by kernel_rfl) rfl #[.int .i64 ((rd_T42 l0 x6_1).f1)] (by rfl) rfl rfl (by (try simp only [List.map_toArray, List.map_cons, List.map_nil]); first | done | rfl | (simp only [List.length_drop, List.length_take]; rfl)) ?_
                  with_reducible refine (marchlandref02_Num.calls k1 ((rd_T42 l0 x6_1).f1) t143 _ A7.out).mono ?_
                  rintro e w11 ⟨rfl, hb⟩
                  refine ⟨_, rfl, ?_⟩
                  have n0_ := Aside0.mk (below_step (by repeat (first | (with_reducible first | exact HB.out | apply below_alloc | apply pw_below_drewN | apply below_drew1) | exact HB.out)) hb)
                  clear HB
                  have HB := n0_
                  clear n0_
                  (try clear hb)
                  (try clear hb2)
                  (try clear hk)
                  (try clear hi)
                  refine hK.out _ _ ⟨((HB.out.cell (World.block_lt_of_cell? w _ hw141_0)).trans hw141_0), ((HB.out.cell (World.block_lt_of_cell? w _ hw141_1)).trans hw141_1), ((HB.out.cell (World.block_lt_of_cell? w _ hw142_0)).trans hw142_0), ((HB.out.cell (World.block_lt_of_cell? w _ hw142_1)).trans hw142_1)⟩ (fun hHeld => ?_)
                  clear hK K
                  refine norm_ (a' := ?_) ?_ ?_
                  rotate_left
                  · show Act.put _ (some 26) _ = _
                    simp only [Act.put, List.setIfInBounds_toArray, List.set_cons_zero, List.set_cons_succ, i64_w, i32_w]
                    rfl
                  refine pure_ (i := 14) (N := some 27) (v := ?_) (a' := ?_) #[true, true, true, true, true, true, true, true, true, true, true, true, true, true, true, false, false] rfl rfl (any_of HT_.out (by kernel_rfl)) (fun _ _ _ h => h) (Or.inl ⟨by rfl, ?_⟩) ?_ ?_
                  rotate_left
                  · intro w'
                    go_simp
                    with_reducible rfl
                  rotate_left
                  · simp only [Act.put, List.setIfInBounds_toArray, List.set_cons_zero, List.set_cons_succ, i64_w, i32_w]
                    rfl
                  refine pure_ (i := 15) (N := some 28) (v := ?_) (a' := ?_) #[true, true, true, true, true, true, true, true, true, true, true, true, true, true, true, true, false] rfl rfl (any_of HT_.out (by kernel_rfl)) (fun _ _ _ h => h) (Or.inl ⟨by rfl, ?_⟩) ?_ ?_
                  rotate_left
                  · intro w'
                    go_simp
                    with_reducible rfl
                  rotate_left
                  · simp only [Act.put, List.setIfInBounds_toArray, List.set_cons_zero, List.set_cons_succ, i64_w, i32_w]
                    rfl
                  refine pure_ (i := 16) (N := some 5) (v := ?_) (a' := ?_) #[true, true, true, true, true, true, true, true, true, true, true, true, true, true, true, true, true] rfl rfl (any_of HT_.out (by kernel_rfl)) (fun _ _ _ h => h) (Or.inl ⟨by rfl, ?_⟩) ?_ ?_
                  rotate_left
                  · intro w'
                    go_simp
                    with_reducible rfl
                  rotate_left
                  · simp only [Act.put, List.setIfInBounds_toArray, List.set_cons_zero, List.set_cons_succ, i64_w, i32_w]
                    rfl
                  refine done_ (done_of HT_.out (by kernel_rfl)) ?_
                  try go_wp2
                  go_roundg k1
                  case measure => have := HK1.out; omega
                  case rel => exact ⟨((((x5_1 ++ ((rd_T42 l0 x6_1).f0)) ++ (⟨#[32]⟩ : ByteArray)) ++ t143) ++ (⟨#[58, 32]⟩ : ByteArray)), (wrap64 (x6_1 + 1)), (by first | rfl | (simp; done) | (simp [*]; done)), (by first | rfl | (simp; done) | (simp [*]; done)), H', ⟨by have := HK1.out; omega⟩, ⟨by repeat (first | (with_reducible first | exact HB.out | apply below_alloc | apply pw_below_drewN | apply below_drew1) | exact HB.out)⟩⟩
                · rw [if_neg c9] at H
                  exact absurd H (by simp)
              · rw [if_neg c8] at H
                exact absurd H (by simp)
            · rw [if_neg c6] at H
              exact absurd H (by simp)
          · rw [if_neg c5] at H
            exact absurd H (by simp)
        · rw [if_neg c4] at H
          exact absurd H (by simp)
      · rw [if_neg c3] at H
        have c3b0 : decide (x6_1 < (l0.length : Int)) = false := decide_eq_false c3
        clear c3
        replace H := Option.bind_eq_some_iff.mp H
        obtain ⟨t144, A120, H⟩ := H
        replace H : (if x5_1.size + t144.size ≤ 9223372036854775807 then (some (x5_1 ++ t144)) else (none)) = some r := H
        have A12 := Aside0.mk A120
        clear A120
        by_cases c13 : x5_1.size + t144.size ≤ 9223372036854775807
        · rw [if_pos c13] at H
          have c13b0 := eq_true c13
          have c13b1 : decide (x5_1.size + t144.size ≤ 9223372036854775807) = true := decide_eq_true c13
          try have c13b2 : (9223372036854775807 < x5_1.size + t144.size) = False := eq_false (Nat.not_lt.2 c13)
          obtain rfl := Option.some.inj H
          go_wp2_with (first | ((with_reducible refine gate_callee (f := 57) rfl ?_); refine goesL_ (some 31) rfl rfl Tryd.func57 (by kernel_rfl) rfl #[.int .i64 a1] rfl (by (try simp only [List.map_toArray, List.map_cons, List.map_nil]); first | done | rfl | (simp only [List.length_drop, List.length_take]; rfl)) ?_; (with_reducible refine (marchlandref02_Word.calls a1 t144 _ A12.out).mono ?_); rintro e w14 ⟨rfl, hb⟩; refine ⟨_, rfl, ?_⟩; have n0_ := Aside0.mk (below_step (by repeat (first | (with_reducible first | exact HB.out | apply below_alloc | apply pw_below_drewN | apply below_drew1) | exact HB.out)) hb); clear HB; have HB := n0_; clear n0_; (try clear hb); (try clear hb2); (try clear hk); (try clear hi)))
          go_ret
          exact ⟨by first | rfl | (simp [errW_none, errW_some] <;> rfl) | (simp [*, errW_none, errW_some] <;> rfl), by repeat (first | (with_reducible first | exact HB.out | apply below_alloc | apply pw_below_drewN | apply below_drew1) | exact HB.out)⟩
        · rw [if_neg c13] at H
          exact absurd H (by simp)
end Go.Proofs.YtgeldmhgbnamcaaDoor.Q
end
section
namespace Go.Proofs.YtgeldmhgbnamcaaDoor.P
open Go.RowKit Go.Proofs.YtgeldmhgbnamcaaDoorW.PrintWords Go.Proofs.YtgeldmhgbnamcaaDoorW.PrintLast Go.Proofs.YtgeldmhgbnamcaaDoorW.PrintMore
open Go.Proofs.YtgeldmhgbnamcaaDoor.Q (S42 k42 z42 rd_T42 marchlandref01_Num.f marchlandref02_Num.f marchlandref02_Word.f marchlandref02_Text.l0 marchlandref02_Text.f)
set_option linter.unusedVariables false
set_option linter.unusedSimpArgs false
theorem dig_cutF : ∀ d : Fin 10, (⟨#[48, 49, 50, 51, 52, 53, 54, 55, 56, 57]⟩ : ByteArray).extract d.val (d.val + 1) = ⟨#[UInt8.ofNat (48 + d.val)]⟩ := by decide +kernel
theorem dig_cut (d : Nat) (h : d < 10) : (⟨#[48, 49, 50, 51, 52, 53, 54, 55, 56, 57]⟩ : ByteArray).extract d (d + 1) = ⟨#[UInt8.ofNat (48 + d)]⟩ := dig_cutF ⟨d, h⟩
theorem num_ev : ∀ (k u : Nat), Lib.nDigits u ≤ k → u < 18446744073709551616 → marchlandref01_Num.f k (u : Int) = some (numS u) := by
 intro k
 induction k with
 | zero => intro u h; have := Lib.nDigits_pos u; omega
 | succ k ih =>
  intro u h hu
  rw [marchlandref01_Num.f]
  by_cases c : u < 10
  ·have e : IntKind.u64.wrap ((u : Int) + 1) = ((u + 1 : Nat) : Int) := by rw [IntKind.wrap_u64]; omega
   rw [if_pos (by omega), if_pos (by omega), e, if_pos (by omega), if_pos (by omega), Int.toNat_natCast, Int.toNat_natCast, dig_cut u c, numS_small u c]
  ·have e1 : IntKind.u64.wrap (Int.tdiv (u : Int) 10) = ((u / 10 : Nat) : Int) := by rw [IntKind.wrap_u64, Int.tdiv_eq_ediv_of_nonneg (by omega)]; omega
   have e2 : Int.tmod (u : Int) 10 = ((u % 10 : Nat) : Int) := by rw [Int.tmod_eq_emod_of_nonneg (by omega)]; omega
   have e3 : IntKind.u64.wrap (((u % 10 : Nat) : Int) + 1) = ((u % 10 + 1 : Nat) : Int) := by rw [IntKind.wrap_u64]; omega
   have hs := numS_size (u / 10) (by omega)
   rw [if_neg (by omega), e1, ih (u / 10) (by rw [Lib.nDigits_big c] at h; omega) (by omega), Option.bind_some, e2, e3, if_pos (by omega), if_pos (by omega), if_pos (by omega), Int.toNat_natCast, Int.toNat_natCast, dig_cut _ (by omega)]
   rw [if_pos (by have : (⟨#[UInt8.ofNat (48 + u % 10)]⟩ : ByteArray).size = 1 := rfl; omega), numS_big u c]
theorem num2_ev (k : Nat) (hk : 20 ≤ k) (n : Int) (h0 : -9223372036854775808 ≤ n) (h1 : n ≤ 9223372036854775807) : marchlandref02_Num.f k n = some (itoaG n) := by
 unfold marchlandref02_Num.f
 by_cases c : n < 0
 ·have e : IntKind.u64.wrap ((IntKind.u64.wrap (wrap64 (-(wrap64 (n + 1))))) + 1) = ((n.natAbs : Nat) : Int) := by rw [IntKind.wrap_u64, IntKind.wrap_u64]; unfold wrap64; omega
  have hs := numS_size n.natAbs (by omega)
  rw [if_pos c, e, num_ev k _ (Nat.le_trans (Lib.nDigits_le20 _ (by omega)) hk) (by omega), Option.bind_some, if_pos (by omega), itoaG_neg n c]
 ·have e : IntKind.u64.wrap n = ((n.toNat : Nat) : Int) := by rw [IntKind.wrap_u64]; omega
  rw [if_neg c, e, num_ev k _ (Nat.le_trans (Lib.nDigits_le20 _ (by omega)) hk) (by omega), Option.bind_some, itoaG_nonneg n (by omega)]
theorem word_ev (k : Int) (h0 : 0 ≤ k) (h1 : k < 15) : marchlandref02_Word.f k = some (wordOf k) := by
 have hk : k = 0 ∨ k = 1 ∨ k = 2 ∨ k = 3 ∨ k = 4 ∨ k = 5 ∨ k = 6 ∨ k = 7 ∨ k = 8 ∨ k = 9 ∨ k = 10 ∨ k = 11 ∨ k = 12 ∨ k = 13 ∨ k = 14 := by omega
 rcases hk with rfl | rfl | rfl | rfl | rfl | rfl | rfl | rfl | rfl | rfl | rfl | rfl | rfl | rfl | rfl <;> rfl
def toP (p : S42) : S41 := ⟨p.f0, p.f1⟩
theorem text_l0 (L : List S42) (k : Int) (h0 : 0 ≤ k) (h1 : k < 15) (hl : L.length ≤ 12) (hz : ∀ p ∈ L, p.f0.size ≤ 20) (hn : ∀ p ∈ L, -9223372036854775808 ≤ p.f1 ∧ p.f1 ≤ 9223372036854775807) :
  ∀ (d i m : Nat), L.length = i + d → 21 + d ≤ m → marchlandref02_Text.l0 (m + 1) L k (pathG (L.map toP) i) (i : Int) = some (pathG (L.map toP) L.length ++ wordOf k) := by
 have hz2 : ∀ p ∈ L.map toP, p.f0.size ≤ 20 := by intro p hp; obtain ⟨q, hq, rfl⟩ := List.mem_map.1 hp; exact hz q hq
 have hn2 : ∀ p ∈ L.map toP, -9223372036854775808 ≤ p.f1 ∧ p.f1 ≤ 9223372036854775807 := by intro p hp; obtain ⟨q, hq, rfl⟩ := List.mem_map.1 hp; exact hn q hq
 have hps := fun i (hi : i ≤ (L.map toP).length) => pathG_size (L.map toP) 20 hz2 hn2 i hi
 rw [List.length_map] at hps
 have hw := wordOf_size k h0 h1
 intro d
 induction d with
 | zero =>
  intro i m hi hm
  have := hps i (by omega)
  rw [marchlandref02_Text.l0, if_neg (by omega), word_ev k h0 h1, Option.bind_some, if_pos (by omega), show i = L.length by omega]
 | succ d ih =>
  intro i m hi hm
  have hlt : i < L.length := by omega
  have s0 := hps i (by omega)
  have hr : rd_T42 L (i : Int) = L[i] := by unfold rd_T42; rw [Int.toNat_natCast, List.getD_eq_getElem?_getD, List.getElem?_eq_getElem hlt]; rfl
  have hm1 := List.getElem_mem hlt
  have z1 := hz _ hm1
  have n1 := hn _ hm1
  have s1 := itoaG_size _ n1.1 n1.2
  have e1 : (⟨#[32]⟩ : ByteArray).size = 1 := rfl
  have e2 : (⟨#[58, 32]⟩ : ByteArray).size = 2 := rfl
  rw [marchlandref02_Text.l0, if_pos (by omega), if_pos (by omega), hr, if_pos (by omega), if_pos (by simp only [ByteArray.size_append]; omega)]
  rw [num2_ev m (by omega) _ n1.1 n1.2, Option.bind_some, if_pos (by simp only [ByteArray.size_append]; omega), if_pos (by simp only [ByteArray.size_append]; omega)]
  have hp := pathG_succ (L.map toP) (i : Int) (by omega) (by rw [List.length_map]; omega)
  rw [show ((i : Int) + 1).toNat = i + 1 by omega, Int.toNat_natCast] at hp
  have hr2 : rd_T41 (L.map toP) (i : Int) = toP (L[i]) := by unfold rd_T41; rw [Int.toNat_natCast, List.getD_eq_getElem?_getD, List.getElem?_map, List.getElem?_eq_getElem hlt]; rfl
  rw [hr2] at hp
  have hq : ((((pathG (L.map toP) i ++ (L[i]).f0) ++ (⟨#[32]⟩ : ByteArray)) ++ itoaG (L[i]).f1) ++ (⟨#[58, 32]⟩ : ByteArray)) = pathG (L.map toP) (i + 1) := by
   rw [hp]
   unfold placeG toP
   simp only [ByteArray.append_assoc]
  rw [hq, show wrap64 ((i : Int) + 1) = ((i + 1 : Nat) : Int) by unfold wrap64; omega]
  obtain ⟨m', rfl⟩ : ∃ m', m = m' + 1 := ⟨m - 1, by omega⟩
  exact ih (i + 1) m' (by omega) (by omega)
theorem text_ev (L : List S42) (k : Int) (h0 : 0 ≤ k) (h1 : k < 15) (hl : L.length ≤ 12) (hz : ∀ p ∈ L, p.f0.size ≤ 20) (hn : ∀ p ∈ L, -9223372036854775808 ≤ p.f1 ∧ p.f1 ≤ 9223372036854775807) :
  marchlandref02_Text.f 40 L k = some (pathG (L.map toP) L.length ++ wordOf k) := by
 have h := text_l0 L k h0 h1 hl hz hn L.length 0 39 (by omega) (by omega)
 exact h
open Go.Proofs.YtgeldmhgbnamcaaDoor.Q (S42 k42)
set_option maxRecDepth 100000
def psOf (L : List S42) : List (ByteArray × Int) := L.map fun p => (p.f0, p.f1)
theorem psOf_len (L : List S42) : (psOf L).length = L.length := by unfold psOf; rw [List.length_map]
theorem psOf_toP (L : List S42) : ((psOf L).map fun p => (⟨p.1, p.2⟩ : S41)) = L.map toP := by
 unfold psOf
 rw [List.map_map]
 rfl
end Go.Proofs.YtgeldmhgbnamcaaDoor.P
end
section
namespace Go.Proofs.YtgeldmhgbnamcaaDoor.Q
open Go.RowKit Go.Proofs.YtgeldmhgbnamcaaDoorW.PrintWords Go.Proofs.YtgeldmhgbnamcaaDoorW.PrintLast Go.Proofs.YtgeldmhgbnamcaaDoorW.PrintMore
attribute [local go_sem] max2_int min2_int max_two min_two max_three min_three max_four min_four
set_option linter.unusedVariables false
set_option linter.unusedSimpArgs false
def graph_Graph_has.f (a0_0 : Int) (l0_1 : List (S127)) (l0_2 : List Int) (a1 : Int) : Option (Bool) := if a1 ≥ 0 then (some (decide (a1 < a0_0))) else (some false)
set_option maxHeartbeats 8000000 in
set_option maxRecDepth 100000 in
theorem graph_Graph_has.calls (a0_0 : Int) (A0_1 : Option Addr) (c0_1 : Nat) (l0_1 : List (S127)) (A0_2 : Option Addr) (c0_2 : Nat) (l0_2 : List Int) (a1 : Int) (r : Bool) (w : World) (hr0_1 : Kd.C k127 w A0_1 l0_1.length l0_1) (hc0_1 : l0_1.length ≤ c0_1) (hr0_2 : Kd.C (Kd.int .i64) w A0_2 l0_2.length l0_2) (hc0_2 : l0_2.length ≤ c0_2) (h : graph_Graph_has.f a0_0 l0_1 l0_2 a1 = some r) :
    Calls Tryd.prog 90 #[.agg #[.int .i64 a0_0, .slice A0_1 l0_1.length c0_1, .slice A0_2 l0_2.length c0_2], .int .i64 a1] w fun e w' => e = .returned (.bool r) ∧ Below w.heap.size w w' := by
  have hu64 := Tryd.underlying64
  have HR0_1 := Aside0.mk hr0_1
  have HC0_1 := Aside0.mk hc0_1
  clear hr0_1 hc0_1
  have HR0_2 := Aside0.mk hr0_2
  have HC0_2 := Aside0.mk hc0_2
  clear hr0_2 hc0_2
  have HB := Aside0.mk (Below.refl w.heap.size w)
  have H : (if a1 ≥ 0 then (some (decide (a1 < a0_0))) else (some false)) = some r := h
  clear h
  by_cases c3 : a1 ≥ 0
  · rw [if_pos c3] at H
    have c3b0 : decide (0 ≤ a1) = true := decide_eq_true c3
    clear c3
    obtain rfl := Option.some.inj H
    go_enter Tryd.func90, Tryd.ntmps90
    go_wp2_with (first | ((with_reducible refine gate_dst (N := 2) rfl ?_); refine box_event ?hg (N := 2) ?hd (cs := #[.int .i64 a0_0, .slice A0_1 l0_1.length c0_1, .slice A0_2 l0_2.length c0_2]) (t := 64) ?hr ?_; (case hd => rfl); (case hg => rfl); (case hr => first | (go_simp; done) | (go_simp; rfl)); intro gb179 hg w4 hbox hb; have n0_ := Aside0.mk (below_step (by repeat (first | (with_reducible first | exact HB.out | apply below_alloc | apply pw_below_drewN | apply below_drew1) | exact HB.out)) hb); have n1_ := Aside0.mk (hbox); have n2_ := Aside0.mk ((by rw [hg]; exact (below_size (by repeat (first | (with_reducible first | exact HB.out | apply below_alloc | apply pw_below_drewN | apply below_drew1) | exact HB.out))) : w.heap.size ≤ gb179)); have n3_ := Aside0.mk ((by rw [hg]; exact (below_size (by repeat (first | (with_reducible first | exact HB.out | apply below_alloc | apply pw_below_drewN | apply below_drew1) | exact HB.out))) : w.heap.size ≤ gb179)); clear HB; have HB := n0_; have BK179 := n1_; have GW179 := n2_; have GE179 := n3_; clear n0_ n1_ n2_ n3_; clear hb hbox hg; have hcz5_0 : w4.cell? ⟨gb179, 0, none⟩ = some (.int .i64 a0_0) := (blk_cell BK179.out 0).trans rfl; have hcz5_1 : w4.cell? ⟨gb179, 1, none⟩ = some (.slice A0_1 l0_1.length c0_1) := (blk_cell BK179.out 1).trans rfl; have hcz5_2 : w4.cell? ⟨gb179, 2, none⟩ = some (.slice A0_2 l0_2.length c0_2) := (blk_cell BK179.out 2).trans rfl; have hfz5_0 := blk_frozen BK179.out 0; have hfz5_1 := blk_frozen BK179.out 1; have hfz5_2 := blk_frozen BK179.out 2))
    go_ret
    exact ⟨by first | rfl | (simp [errW_none, errW_some] <;> rfl) | (simp [*, errW_none, errW_some] <;> rfl), by repeat (first | (with_reducible first | exact HB.out | apply below_alloc | apply pw_below_drewN | apply below_drew1 | refine below_set ?_ GE179.out) | exact HB.out)⟩
  · rw [if_neg c3] at H
    have c3b0 : decide (0 ≤ a1) = false := decide_eq_false c3
    clear c3
    obtain rfl := Option.some.inj H
    go_enter Tryd.func90, Tryd.ntmps90
    go_wp2_with (first | ((with_reducible refine gate_dst (N := 2) rfl ?_); refine box_event ?hg (N := 2) ?hd (cs := #[.int .i64 a0_0, .slice A0_1 l0_1.length c0_1, .slice A0_2 l0_2.length c0_2]) (t := 64) ?hr ?_; (case hd => rfl); (case hg => rfl); (case hr => first | (go_simp; done) | (go_simp; rfl)); intro gb179 hg w6 hbox hb; have n0_ := Aside0.mk (below_step (by repeat (first | (with_reducible first | exact HB.out | apply below_alloc | apply pw_below_drewN | apply below_drew1) | exact HB.out)) hb); have n1_ := Aside0.mk (hbox); have n2_ := Aside0.mk ((by rw [hg]; exact (below_size (by repeat (first | (with_reducible first | exact HB.out | apply below_alloc | apply pw_below_drewN | apply below_drew1) | exact HB.out))) : w.heap.size ≤ gb179)); have n3_ := Aside0.mk ((by rw [hg]; exact (below_size (by repeat (first | (with_reducible first | exact HB.out | apply below_alloc | apply pw_below_drewN | apply below_drew1) | exact HB.out))) : w.heap.size ≤ gb179)); clear HB; have HB := n0_; have BK179 := n1_; have GW179 := n2_; have GE179 := n3_; clear n0_ n1_ n2_ n3_; clear hb hbox hg))
    go_ret
    exact ⟨by first | rfl | (simp [errW_none, errW_some] <;> rfl) | (simp [*, errW_none, errW_some] <;> rfl), by repeat (first | (with_reducible first | exact HB.out | apply below_alloc | apply pw_below_drewN | apply below_drew1 | refine below_set ?_ GE179.out) | exact HB.out)⟩
end Go.Proofs.YtgeldmhgbnamcaaDoor.Q
end
section
namespace Go.Proofs.YtgeldmhgbnamcaaDoor.G
open Go.RowKit Go.Proofs.YtgeldmhgbnamcaaDoorW.PrintWords Go.Proofs.YtgeldmhgbnamcaaDoorW.PrintLast Go.Proofs.YtgeldmhgbnamcaaDoorW.PrintMore
open Go.Proofs.YtgeldmhgbnamcaaDoor.P (ErrIs psOf At_calls TypeVar)
open Go.Proofs.YtgeldmhgbnamcaaDoor.Q (S42 k42 S75 k75 S127 k127 graph_Graph_has.f graph_Graph_has.calls)
open Go.Proofs.YtgeldmhgbnamcaaDoor.PureQ (c127 badE rd127 edS frS tS)
set_option linter.unusedVariables false
set_option linter.unusedSimpArgs false
set_option maxRecDepth 100000
theorem at127 {w : World} {A : Option Addr} {E : List S75} (hC : Kd.C k127 w A (E.map c127).length (E.map c127)) (i : Nat) (hi : i < E.length) : ∃ ad : Addr, A = some ad ∧ w.cell? (ad.add (i * 3)) = some (.int .i64 (E[i]).f0) ∧ w.cell? ⟨(ad.add (i * 3)).block, (ad.add (i * 3)).off + 1, none⟩ = some (.int .i64 (E[i]).f1) ∧ w.cell? ⟨(ad.add (i * 3)).block, (ad.add (i * 3)).off + 2, none⟩ = some (.int .u64 (E[i]).f2) := by
 obtain ⟨ad, e, h0, h1, h2⟩ := Go.Proofs.YtgeldmhgbnamcaaDoor.Q.at_T127 hC (i : Int) (by omega) (by rw [List.length_map]; omega)
 rw [rd127 hi, Int.toNat_natCast] at h0 h1 h2
 exact ⟨ad, e, h0, h1, h2⟩
theorem has_val (a0 : Int) (E : List S127) (I : List Int) (p : Int) : graph_Graph_has.f a0 E I p = some (decide (0 ≤ p ∧ p < a0)) := by
 unfold graph_Graph_has.f
 by_cases h : p ≥ 0
 ·rw [if_pos h]; congr 1; rw [decide_eq_decide]; omega
 ·rw [if_neg h]; congr 1; symm; rw [decide_eq_false_iff_not]; omega
def EdgeV (w : World) (v : Value) : Option (List S42) → Prop
 | none => v = .nilIface
 | some L => ErrIs w (psOf L) v (.iface 33 (.int .i64 2))
set_option maxHeartbeats 16000000 in
theorem edges_C (a0 : Int) (A1 : Option Addr) (c1 : Nat) (E : List S75) (A2 : Option Addr) (c2 : Nat) (I : List Int) (W : World) (hC1 : Kd.C k127 W A1 (E.map c127).length (E.map c127)) (hc1 : (E.map c127).length ≤ c1) (hC2 : Kd.C (Kd.int .i64) W A2 I.length I) (hc2 : I.length ≤ c2) (hl : E.length ≤ 1000) :
  Calls Tryd.prog 67 #[.agg #[.int .i64 a0, .slice A1 E.length c1, .slice A2 I.length c2]] W fun e w' => ∃ v, e = .returned v ∧ Below W.heap.size W w' ∧ EdgeV w' v (badE a0 0 E) := by
 have HC := Aside0.mk (show Kd.C k127 W A1 (E.map c127).length (E.map c127) ∧ (E.map c127).length ≤ c1 ∧ Kd.C (Kd.int .i64) W A2 I.length I ∧ I.length ≤ c2 from ⟨hC1, hc1, hC2, hc2⟩)
 have HH : Aside0 (∀ (p : Int) (w' : World), Below W.heap.size W w' → Calls Tryd.prog 90 #[.agg #[.int .i64 a0, .slice A1 E.length c1, .slice A2 I.length c2], .int .i64 p] w' fun e w'' => e = .returned (.bool (decide (0 ≤ p ∧ p < a0))) ∧ Below w'.heap.size w' w'') := ⟨fun p w' hb => by
  have h := graph_Graph_has.calls a0 A1 c1 (E.map c127) A2 c2 I p _ w' (Kd.C_below hC1 hb) hc1 (Kd.C_below hC2 hb) hc2 (has_val a0 _ I p)
  rw [List.length_map] at h
  exact h⟩
 have HBE := Aside0.mk (show badE a0 0 E = badE a0 0 (E.drop 0) from rfl)
 clear hC1 hc1 hC2 hc2
 go_enter Tryd.func67, Tryd.ntmps67
 go_wp2
 go_loopw [8] (fun v8 wr => ∃ i : Nat, v8 = .int .i64 (i : Int) ∧ Aside0 (i ≤ E.length ∧ badE a0 0 E = badE a0 i (E.drop i) ∧ wr.heap[W.heap.size]? = some (.cells #[.int .i64 a0, .slice A1 E.length c1, .slice A2 I.length c2] 64 (0, 0)) ∧ Below W.heap.size W wr)) (fun v8 _ => (2000 - intOf v8).toNat)
 case atStart => exact ⟨0, rfl, ⟨Nat.zero_le _, HBE.out, blk_new W _, below_alloc (Below.refl _ W) _⟩⟩
 case round =>
  obtain ⟨i, rfl, HI⟩ := hrel
  have hbk := HI.out.2.2.1
  have hx0 : wr.cell? ⟨W.heap.size, 0, none⟩ = some (.int .i64 a0) := (blk_cell hbk 0).trans rfl
  have hx1 : wr.cell? ⟨W.heap.size, 1, none⟩ = some (.slice A1 E.length c1) := (blk_cell hbk 1).trans rfl
  have hx2 : wr.cell? ⟨W.heap.size, 2, none⟩ = some (.slice A2 I.length c2) := (blk_cell hbk 2).trans rfl
  clear hbk
  by_cases ci : i < E.length
  ·have d1 := decide_eq_true (show (i : Int) < (E.length : Int) by omega)
   have q0 : (0 : Int) ≤ (i : Int) := by omega
   have q1 : (i : Int) < (E.length : Int) := by omega
   have hwi : IntKind.i64.wrap ((i : Int) + 1) = (i : Int) + 1 := by rw [IntKind.wrap_i64]; omega
   obtain ⟨ad, rfl, hy0, hy1, hy2⟩ := at127 (Kd.C_below HC.out.1 HI.out.2.2.2) i ci
   have HD := Aside0.mk (List.drop_eq_getElem_cons ci)
   obtain ⟨f0, e0⟩ : ∃ x, (E[i]).f0 = x := ⟨_, rfl⟩
   obtain ⟨f1, e1⟩ : ∃ x, (E[i]).f1 = x := ⟨_, rfl⟩
   obtain ⟨f2, e2⟩ : ∃ x, (E[i]).f2 = x := ⟨_, rfl⟩
   rw [e0] at hy0
   rw [e1] at hy1
   rw [e2] at hy2
   have HBB : Aside0 (badE a0 0 E = if f0 < 0 ∨ a0 ≤ f0 then some [⟨edS, (i : Int)⟩, ⟨frS, f0⟩] else if f1 < 0 ∨ a0 ≤ f1 then some [⟨edS, (i : Int)⟩, ⟨tS, f1⟩] else badE a0 (i + 1) (E.drop (i + 1))) := ⟨by
    have h := HI.out.2.1
    rw [HD.out, badE, e0, e1] at h
    exact h⟩
   have HJ := Aside0.mk ci
   clear e0 e1 e2 HD ci
   go_upto_region 4 with fail
   have HG4 := Aside0.mk (blk_alloc HI.out.2.2.1 (.cells #[.int .i64 f0, .int .i64 f1, .int .u64 f2] 127))
   have HT4 := Aside0.mk (blk_new wr (.cells #[.int .i64 f0, .int .i64 f1, .int .u64 f2] 127))
   have HB4 := Aside0.mk (below_alloc HI.out.2.2.2 (.cells #[.int .i64 f0, .int .i64 f1, .int .u64 f2] 127))
   generalize wr.alloc (.cells #[.int .i64 f0, .int .i64 f1, .int .u64 f2] 127) = w4 at HG4 HT4 HB4 ⊢
   replace HG4 : Aside0 (w4.heap[W.heap.size]? = some (.cells #[.int .i64 a0, .slice (some ad) E.length c1, .slice A2 I.length c2] 64 (0, 0))) := HG4
   have z0 : w4.cell? ⟨W.heap.size, 0, none⟩ = some (.int .i64 a0) := (blk_cell HG4.out 0).trans rfl
   have z1 : w4.cell? ⟨W.heap.size, 1, none⟩ = some (.slice (some ad) E.length c1) := (blk_cell HG4.out 1).trans rfl
   have z2 : w4.cell? ⟨W.heap.size, 2, none⟩ = some (.slice A2 I.length c2) := (blk_cell HG4.out 2).trans rfl
   have t0 : w4.cell? ⟨wr.heap.size, 0, none⟩ = some (.int .i64 f0) := (blk_cell HT4.out 0).trans rfl
   have t1 : w4.cell? ⟨wr.heap.size, 1, none⟩ = some (.int .i64 f1) := (blk_cell HT4.out 1).trans rfl
   have t2 : w4.cell? ⟨wr.heap.size, 2, none⟩ = some (.int .u64 f2) := (blk_cell HT4.out 2).trans rfl
   have H0 := Aside0.mk (HH.out f0 w4 HB4.out)
   by_cases b0 : f0 < 0 ∨ a0 ≤ f0
   ·have hL := HBB.out
    rw [if_pos b0] at hL
    have hv : decide (0 ≤ f0 ∧ f0 < a0) = false := by rw [decide_eq_false_iff_not]; omega
    rw [hv] at H0
    have HL := Aside0.mk hL
    have A5 := Aside0.mk (fun w => show Calls Tryd.prog 27 #[.iface 33 (.int .i64 2), .string ⟨#[102, 114, 111, 109]⟩, .int .i64 f0] w _ from At_calls [] (.iface 33 (.int .i64 2)) 33 (.int .i64 2) frS f0 w rfl)
    clear hL hv b0
    go_wp2_with (first
     | (go_at_call 90; ((with_reducible refine H0.out.mono ?_); rintro e w5 ⟨rfl, hb⟩; have HB5 := Aside0.mk (below_step HB4.out hb); have HT5 := Aside0.mk (blk_below HT4.out hb); have s0 : w5.cell? ⟨wr.heap.size, 0, none⟩ = some (.int .i64 f0) := (blk_cell HT5.out 0).trans rfl; clear hb))
     | (go_at_call 27; ((with_reducible refine (A5.out _).mono ?_); rintro e w6 ⟨v6, rfl, hE, hb⟩; have HB6 := Aside0.mk (below_step HB5.out hb); have A6 := Aside0.mk (show Calls Tryd.prog 27 #[v6, .string ⟨#[101, 100, 103, 101]⟩, .int .i64 (i : Int)] w6 _ from At_calls [(frS, f0)] v6 33 (.int .i64 2) edS (i : Int) w6 hE); clear hE hb))
     | (go_at_call 27; ((with_reducible refine A6.out.mono ?_); rintro e w7 ⟨v7, rfl, hE, hb⟩; have HE7 := Aside0.mk hE; have HB7 := Aside0.mk (below_step HB6.out hb); obtain ⟨u7, x7, rfl⟩ := hE.iface; clear hE hb)))
    go_ret
    exact ⟨_, rfl, HB7.out, by rw [HL.out]; exact HE7.out⟩
   ·have hv : decide (0 ≤ f0 ∧ f0 < a0) = true := decide_eq_true (by omega)
    rw [hv] at H0
    have hL := HBB.out
    rw [if_neg b0] at hL
    clear hv b0
    have H1 := Aside0.mk (fun w' hb => HH.out f1 w' hb)
    by_cases b1 : f1 < 0 ∨ a0 ≤ f1
    ·rw [if_pos b1] at hL
     have hv : decide (0 ≤ f1 ∧ f1 < a0) = false := by rw [decide_eq_false_iff_not]; omega
     rw [hv] at H1
     have HL := Aside0.mk hL
     have A5 := Aside0.mk (fun w => show Calls Tryd.prog 27 #[.iface 33 (.int .i64 2), .string ⟨#[116, 111]⟩, .int .i64 f1] w _ from At_calls [] (.iface 33 (.int .i64 2)) 33 (.int .i64 2) tS f1 w rfl)
     clear hL hv b1
     go_wp2_with (first
      | (go_at_call 90; ((with_reducible refine H0.out.mono ?_); rintro e w5 ⟨rfl, hb⟩; have HB5 := Aside0.mk (below_step HB4.out hb); have HG5 := Aside0.mk (blk_below HG4.out hb); have HT5 := Aside0.mk (blk_below HT4.out hb); have s1 : w5.cell? ⟨wr.heap.size, 1, none⟩ = some (.int .i64 f1) := (blk_cell HT5.out 1).trans rfl; have y0 : w5.cell? ⟨W.heap.size, 0, none⟩ = some (.int .i64 a0) := (blk_cell HG5.out 0).trans rfl; have y1 : w5.cell? ⟨W.heap.size, 1, none⟩ = some (.slice (some ad) E.length c1) := (blk_cell HG5.out 1).trans rfl; have y2 : w5.cell? ⟨W.heap.size, 2, none⟩ = some (.slice A2 I.length c2) := (blk_cell HG5.out 2).trans rfl; clear hb))
      | (go_at_call 90; ((with_reducible refine (H1.out _ HB5.out).mono ?_); rintro e w8 ⟨rfl, hb⟩; have HB8 := Aside0.mk (below_step HB5.out hb); have HT8 := Aside0.mk (blk_below HT5.out hb); have s8 : w8.cell? ⟨wr.heap.size, 1, none⟩ = some (.int .i64 f1) := (blk_cell HT8.out 1).trans rfl; clear hb))
      | (go_at_call 27; ((with_reducible refine (A5.out _).mono ?_); rintro e w6 ⟨v6, rfl, hE, hb⟩; have HB6 := Aside0.mk (below_step HB8.out hb); have A6 := Aside0.mk (show Calls Tryd.prog 27 #[v6, .string ⟨#[101, 100, 103, 101]⟩, .int .i64 (i : Int)] w6 _ from At_calls [(tS, f1)] v6 33 (.int .i64 2) edS (i : Int) w6 hE); clear hE hb))
      | (go_at_call 27; ((with_reducible refine A6.out.mono ?_); rintro e w7 ⟨v7, rfl, hE, hb⟩; have HE7 := Aside0.mk hE; have HB7 := Aside0.mk (below_step HB6.out hb); obtain ⟨u7, x7, rfl⟩ := hE.iface; clear hE hb)))
     go_ret
     exact ⟨_, rfl, HB7.out, by rw [HL.out]; exact HE7.out⟩
    ·rw [if_neg b1] at hL
     have hv : decide (0 ≤ f1 ∧ f1 < a0) = true := decide_eq_true (by omega)
     rw [hv] at H1
     have HL := Aside0.mk hL
     clear hL hv b1
     go_wp2_with (first
      | (go_at_call 90; ((with_reducible refine H0.out.mono ?_); rintro e w5 ⟨rfl, hb⟩; have HB5 := Aside0.mk (below_step HB4.out hb); have HG5 := Aside0.mk (blk_below HG4.out hb); have HT5 := Aside0.mk (blk_below HT4.out hb); have s1 : w5.cell? ⟨wr.heap.size, 1, none⟩ = some (.int .i64 f1) := (blk_cell HT5.out 1).trans rfl; have y0 : w5.cell? ⟨W.heap.size, 0, none⟩ = some (.int .i64 a0) := (blk_cell HG5.out 0).trans rfl; have y1 : w5.cell? ⟨W.heap.size, 1, none⟩ = some (.slice (some ad) E.length c1) := (blk_cell HG5.out 1).trans rfl; have y2 : w5.cell? ⟨W.heap.size, 2, none⟩ = some (.slice A2 I.length c2) := (blk_cell HG5.out 2).trans rfl; clear hb))
      | (go_at_call 90; ((with_reducible refine (H1.out _ HB5.out).mono ?_); rintro e w8 ⟨rfl, hb⟩; have HB8 := Aside0.mk (below_step HB5.out hb); have HG8 := Aside0.mk (blk_below HG5.out hb); clear hb)))
     go_roundw
     case rel => exact ⟨i + 1, by first | rfl | exact congrArg _ hwi, ⟨by have := HJ.out; omega, HL.out, HG8.out, HB8.out⟩⟩
     case measure => have := HJ.out; simp only [intOf]; omega
  ·have d1 := decide_eq_false (show ¬ (i : Int) < (E.length : Int) by omega)
   have q1 : ¬ (i : Int) < (E.length : Int) := by omega
   have HL := Aside0.mk (show badE a0 0 E = none from by have h := HI.out.2.1; rw [List.drop_eq_nil_of_le (by omega)] at h; exact h)
   have HB := Aside0.mk HI.out.2.2.2
   clear HI HBE
   go_wp2
   go_ret
   exact ⟨_, rfl, HB.out, by rw [HL.out]; rfl⟩
end Go.Proofs.YtgeldmhgbnamcaaDoor.G
end
section
namespace Go.Proofs.YtgeldmhgbnamcaaDoor.Q
open Go.RowKit Go.Proofs.YtgeldmhgbnamcaaDoorW.PrintWords Go.Proofs.YtgeldmhgbnamcaaDoorW.PrintLast Go.Proofs.YtgeldmhgbnamcaaDoorW.PrintMore
attribute [local go_sem] max2_int min2_int max_two min_two max_three min_three max_four min_four
set_option linter.unusedVariables false
set_option linter.unusedSimpArgs false
def slices_Index_int_int.l0 : Nat → List Int → Int → Int → Int → Option (Int)
  | 0, _, _, _, _ => none
  | k + 1, x0, x1, x7, x8 => if x8 < x7 then (if 0 ≤ x8 then (if x8 < (x0.length : Int) then (if x1 = (rd x0 x8) then (some x8) else (slices_Index_int_int.l0 k x0 x1 x7 (wrap64 (x8 + 1)))) else (none)) else (none)) else (some (-1))
def slices_Index_int_int.f (k : Nat) (l0 : List Int) (a1 : Int) : Option (Int) := slices_Index_int_int.l0 k l0 a1 (l0.length : Int) 0
set_option maxHeartbeats 8000000 in
set_option maxRecDepth 100000 in
theorem slices_Index_int_int.calls (k : Nat) (A0 : Option Addr) (c0 : Nat) (l0 : List Int) (a1 : Int) (r : Int) (w : World) (hr0 : Kd.C (Kd.int .i64) w A0 l0.length l0) (hc0 : l0.length ≤ c0) (h : slices_Index_int_int.f k l0 a1 = some r) :
    Calls Tryd.prog 112 #[.slice A0 l0.length c0, .int .i64 a1] w fun e w' => e = .returned (.int .i64 r) ∧ Drawn0 w w' := by
  have HR0 := Aside0.mk hr0
  have HC0 := Aside0.mk hc0
  clear hr0 hc0
  have H : (slices_Index_int_int.l0 k l0 a1 (l0.length : Int) 0) = some r := h
  clear h
  have H' := Aside0.mk H
  clear H
  go_enter Tryd.func112, Tryd.ntmps112
  go_wp2
  go_loopg [8] k (fun kq v8 w' => ∃ (x8_1 : Int), v8 = .int .i64 x8_1 ∧ Aside0 (slices_Index_int_int.l0 kq l0 a1 (l0.length : Int) x8_1 = some r) ∧ Aside0 (kq ≤ k) ∧ Drawn0 w w')
  case atStart => exact ⟨(0), (by first | rfl | (simp; done) | (simp [*]; done)), H', ⟨Nat.le_refl _⟩, by repeat (first | exact Drawn0.refl _ | apply Drawn0.step)⟩
  case round =>
    clear H'
    try clear c1
    try clear p2
    obtain ⟨x8_1, rfl, HA, HK1, ⟨m1, rfl⟩⟩ := hrel
    cases gk with
    | zero => exact absurd HA.out (by simp [slices_Index_int_int.l0])
    | succ k1 =>
      have H := HA.out
      clear HA
      simp only [slices_Index_int_int.l0] at H
      by_cases c3 : x8_1 < (l0.length : Int)
      · rw [if_pos c3] at H
        have c3b0 : decide (x8_1 < (l0.length : Int)) = true := decide_eq_true c3
        clear c3
        by_cases c4 : 0 ≤ x8_1
        · rw [if_pos c4] at H
          have c4b0 : decide (0 ≤ x8_1) = true := decide_eq_true c4
          clear c4
          by_cases c5 : x8_1 < (l0.length : Int)
          · rw [if_pos c5] at H
            have c5b0 : decide (x8_1 < (l0.length : Int)) = true := decide_eq_true c5
            clear c5
            by_cases c6 : a1 = (rd l0 x8_1)
            · rw [if_pos c6] at H
              have c6b0 : (a1 == (rd l0 x8_1)) = true := beq_iff_eq.mpr c6
              have c6b1 : (a1 != (rd l0 x8_1)) = false := bne_eq_false_iff_eq.mpr c6
              clear c6
              obtain rfl := Option.some.inj H
              have p185 : 0 ≤ (x8_1 : Int) := of_decide_eq_true (by first | (with_reducible assumption) | assumption)
              have q185 : x8_1 < (l0.length : Int) := of_decide_eq_true (by first | (with_reducible assumption) | assumption)
              obtain ⟨ad185, e185, hx185_0⟩ := Kd.at_int HR0.out x8_1 p185 q185
              cases e185
              replace p185 := eq_true p185
              replace q185 := eq_true q185
              go_wp2
              go_ret
              exact ⟨by first | rfl | (simp; done) | (simp [*]; done), by repeat (first | exact Drawn0.refl _ | apply Drawn0.step)⟩
            · rw [if_neg c6] at H
              have c6b0 : (a1 == (rd l0 x8_1)) = false := beq_eq_false_iff_ne.mpr c6
              have c6b1 : (a1 != (rd l0 x8_1)) = true := bne_iff_ne.mpr c6
              have H' := Aside0.mk H
              clear H
              have p185 : 0 ≤ (x8_1 : Int) := of_decide_eq_true (by first | (with_reducible assumption) | assumption)
              have q185 : x8_1 < (l0.length : Int) := of_decide_eq_true (by first | (with_reducible assumption) | assumption)
              obtain ⟨ad185, e185, hx185_0⟩ := Kd.at_int HR0.out x8_1 p185 q185
              cases e185
              replace p185 := eq_true p185
              replace q185 := eq_true q185
              go_wp2
              go_roundg k1
              case measure => have := HK1.out; omega
              case rel => exact ⟨(wrap64 (x8_1 + 1)), (by first | rfl | (simp; done) | (simp [*]; done)), H', ⟨by have := HK1.out; omega⟩, by repeat (first | exact Drawn0.refl _ | apply Drawn0.step)⟩
          · rw [if_neg c5] at H
            exact absurd H (by simp)
        · rw [if_neg c4] at H
          exact absurd H (by simp)
      · rw [if_neg c3] at H
        have c3b0 : decide (x8_1 < (l0.length : Int)) = false := decide_eq_false c3
        clear c3
        obtain rfl := Option.some.inj H
        go_wp2
        go_ret
        exact ⟨by first | rfl | (simp; done) | (simp [*]; done), by repeat (first | exact Drawn0.refl _ | apply Drawn0.step)⟩
def slices_Contains_int_int.f (k : Nat) (l0 : List Int) (a1 : Int) : Option (Bool) := (slices_Index_int_int.f k l0 a1).bind fun t186 => (some (decide (t186 ≥ 0)))
set_option maxHeartbeats 8000000 in
set_option maxRecDepth 100000 in
theorem slices_Contains_int_int.calls (k : Nat) (A0 : Option Addr) (c0 : Nat) (l0 : List Int) (a1 : Int) (r : Bool) (w : World) (hr0 : Kd.C (Kd.int .i64) w A0 l0.length l0) (hc0 : l0.length ≤ c0) (h : slices_Contains_int_int.f k l0 a1 = some r) :
    Calls Tryd.prog 91 #[.slice A0 l0.length c0, .int .i64 a1] w fun e w' => e = .returned (.bool r) ∧ Drawn0 w w' := by
  have HR0 := Aside0.mk hr0
  have HC0 := Aside0.mk hc0
  clear hr0 hc0
  have H : ((slices_Index_int_int.f k l0 a1).bind fun t186 => (some (decide (t186 ≥ 0)))) = some r := h
  clear h
  replace H := Option.bind_eq_some_iff.mp H
  obtain ⟨t186, A30, H⟩ := H
  replace H : (some (decide (t186 ≥ 0))) = some r := H
  have A3 := Aside0.mk A30
  clear A30
  obtain rfl := Option.some.inj H
  go_enter Tryd.func91, Tryd.ntmps91
  go_wp2_with (first | ((with_reducible refine gate_callee (f := 112) rfl ?_); refine goesL_ (some 7) rfl rfl Tryd.func112 (by kernel_rfl) rfl #[.slice A0 l0.length c0, .int .i64 a1] rfl (by (try simp only [List.map_toArray, List.map_cons, List.map_nil]); first | done | rfl | (simp only [List.length_drop, List.length_take]; rfl)) ?_; (with_reducible refine (slices_Index_int_int.calls k _ _ l0 a1 t186 _ ?side1 ?side2 A3.out).mono ?_); (case side1 => repeat (first | exact HR0.out | (with_reducible refine Kd.C_alloc ?_ _) | (with_reducible refine Kd.C_drewN ?_ _) | (with_reducible refine Kd.C_drew ?_))); (case side2 => exact HC0.out); rintro e w' ⟨rfl, ⟨nd, rfl⟩⟩; refine ⟨_, rfl, ?_⟩))
  go_ret
  exact ⟨by first | rfl | (simp; done) | (simp [*]; done), by repeat (first | exact Drawn0.refl _ | apply Drawn0.step)⟩
end Go.Proofs.YtgeldmhgbnamcaaDoor.Q
end
section
namespace Go.Proofs.YtgeldmhgbnamcaaDoor.G
open Go.RowKit Go.Proofs.YtgeldmhgbnamcaaDoorW.PrintWords Go.Proofs.YtgeldmhgbnamcaaDoorW.PrintLast Go.Proofs.YtgeldmhgbnamcaaDoorW.PrintMore
open Go.Proofs.YtgeldmhgbnamcaaDoor.P (ErrIs psOf At_calls TypeVar)
open Go.Proofs.YtgeldmhgbnamcaaDoor.Q (S42 k42 S75 k75 S127 k127 graph_Graph_has.f graph_Graph_has.calls slices_Index_int_int.l0 slices_Index_int_int.f slices_Contains_int_int.f slices_Contains_int_int.calls)
open Go.Proofs.YtgeldmhgbnamcaaDoor.PureQ (c127 badI rd127 inS rd_pre w64 Ev.s Ev.o)
set_option linter.unusedVariables false
set_option linter.unusedSimpArgs false
set_option maxRecDepth 100000
theorem C_take {α : Type} {d : Kd α} {w : World} {A : Option Addr} {l : List α} (h : Kd.C d w A l.length l) (m : Nat) (hm : m ≤ l.length) : Kd.C d w A m (l.take m) :=
 ⟨by rw [List.length_take]; omega, by have := h.2.1; omega, fun h0 => by
  obtain ⟨ad, e, hc⟩ := h.2.2 (by omega)
  refine ⟨ad, e, fun j p hj => hc j p ?_⟩
  rw [List.getElem?_take] at hj
  split at hj
  ·exact hj
  ·cases hj⟩
theorem index_ev (p : Int) (L : List Int) (hl : L.length ≤ 1000) : ∀ (rest pre : List Int), L = pre ++ rest → p ∉ pre → ∃ x : Int, Ev (fun k => slices_Index_int_int.l0 k L p (L.length : Int) (pre.length : Int)) x ∧ (0 ≤ x ↔ p ∈ rest)
 | [], pre, h, hp => by
  rw [List.append_nil] at h
  subst h
  refine ⟨-1, Ev.o (fun k => ?_), by simp⟩
  show slices_Index_int_int.l0 (k + 1) _ _ _ _ = _
  rw [slices_Index_int_int.l0, if_neg (by omega)]
 | y :: rest, pre, h, hp => by
  have hlen : pre.length + 1 ≤ L.length := by rw [h, List.length_append, List.length_cons]; omega
  have hg : rd L (pre.length : Int) = y := by rw [h]; exact rd_pre pre y rest rfl
  by_cases c : p = y
  ·refine ⟨(pre.length : Int), Ev.o (fun k => ?_), by rw [c]; simp⟩
   show slices_Index_int_int.l0 (k + 1) _ _ _ _ = _
   rw [slices_Index_int_int.l0, if_pos (by omega), if_pos (by omega), if_pos (by omega), hg, if_pos c]
  ·obtain ⟨x, hx, hi⟩ := index_ev p L hl rest (pre ++ [y]) (by rw [h]; simp) (by simp only [List.mem_append, List.mem_singleton]; rintro (z | z); exact hp z; exact c z)
   rw [List.length_append, List.length_singleton] at hx
   refine ⟨x, Ev.s (fun k => ?_) hx, by rw [hi, List.mem_cons]; exact ⟨Or.inr, fun z => z.resolve_left c⟩⟩
   show slices_Index_int_int.l0 (k + 1) _ _ _ _ = _
   rw [slices_Index_int_int.l0, if_pos (by omega), if_pos (by omega), if_pos (by omega), hg, if_neg c, w64 (by omega)]
theorem contains_ev (p : Int) (L : List Int) (hl : L.length ≤ 1000) : ∃ k, slices_Contains_int_int.f k L p = some (decide (p ∈ L)) := by
 obtain ⟨x, ⟨K, hx⟩, hi⟩ := index_ev p L hl L [] rfl (by simp)
 refine ⟨K, ?_⟩
 have hx := hx K (Nat.le_refl _)
 dsimp only at hx
 unfold slices_Contains_int_int.f slices_Index_int_int.f
 rw [show ((([] : List Int).length : Nat) : Int) = 0 from rfl] at hx
 rw [hx, Option.bind_some]
 congr 1
 rw [decide_eq_decide]
 exact hi
def InV (w : World) (v : Value) : Option (List S42 × Int) → Prop
 | none => v = .nilIface
 | some x => ErrIs w (psOf x.1) v (.iface 33 (.int .i64 x.2))
def inp (a0 : Int) (I : List Int) : Option (List S42 × Int) := if 8 < I.length ∨ I.length < 1 then some ([], 4) else badI a0 [] I
set_option maxHeartbeats 16000000 in
theorem inputs_C (a0 : Int) (A1 : Option Addr) (c1 : Nat) (E : List S75) (A2 : Option Addr) (c2 : Nat) (I : List Int) (W : World) (hC1 : Kd.C k127 W A1 (E.map c127).length (E.map c127)) (hc1 : (E.map c127).length ≤ c1) (hC2 : Kd.C (Kd.int .i64) W A2 I.length I) (hc2 : I.length ≤ c2) :
  Calls Tryd.prog 68 #[.agg #[.int .i64 a0, .slice A1 E.length c1, .slice A2 I.length c2]] W fun e w' => ∃ v, e = .returned v ∧ Below W.heap.size W w' ∧ InV w' v (inp a0 I) := by
 have HC := Aside0.mk (show Kd.C k127 W A1 (E.map c127).length (E.map c127) ∧ (E.map c127).length ≤ c1 ∧ Kd.C (Kd.int .i64) W A2 I.length I ∧ I.length ≤ c2 from ⟨hC1, hc1, hC2, hc2⟩)
 have HH : Aside0 (∀ (p : Int) (w' : World), Below W.heap.size W w' → Calls Tryd.prog 90 #[.agg #[.int .i64 a0, .slice A1 E.length c1, .slice A2 I.length c2], .int .i64 p] w' fun e w'' => e = .returned (.bool (decide (0 ≤ p ∧ p < a0))) ∧ Below w'.heap.size w' w'') := ⟨fun p w' hb => by
  have h := graph_Graph_has.calls a0 A1 c1 (E.map c127) A2 c2 I p _ w' (Kd.C_below hC1 hb) hc1 (Kd.C_below hC2 hb) hc2 (has_val a0 _ I p)
  rw [List.length_map] at h
  exact h⟩
 clear hC1 hc1 hC2 hc2
 by_cases hm : 8 < I.length ∨ I.length < 1
 ·have HL := Aside0.mk (show inp a0 I = some ([], 4) from if_pos hm)
  have hcs : ((8 : Int) < (I.length : Int) ∧ 8 < I.length) ∨ (¬ (8 : Int) < (I.length : Int) ∧ ¬ 8 < I.length ∧ (I.length : Int) = 0 ∧ I.length = 0) := by omega
  clear hm
  rcases hcs with ⟨g1, g2⟩ | ⟨g1, g2, g3, g4⟩
  ·have d1 := decide_eq_true g1
   go_enter Tryd.func68, Tryd.ntmps68
   go_wp2
   go_ret
   exact ⟨_, rfl, below_alloc (Below.refl _ W) _, by rw [HL.out]; rfl⟩
  ·have d1 := decide_eq_false g1
   go_enter Tryd.func68, Tryd.ntmps68
   go_wp2
   go_ret
   exact ⟨_, rfl, below_alloc (Below.refl _ W) _, by rw [HL.out]; rfl⟩
 ·have g1 : ¬ (8 : Int) < (I.length : Int) := by omega
  have g2 : ¬ 8 < I.length := by omega
  have g3 : ¬ (I.length : Int) = 0 := by omega
  have g4 : ¬ I.length = 0 := by omega
  have HIN := Aside0.mk (show inp a0 I = badI a0 [] I from if_neg hm)
  have HLN := Aside0.mk (show 1 ≤ I.length ∧ I.length ≤ 8 from by omega)
  clear hm
  go_enter Tryd.func68, Tryd.ntmps68
  go_wp2
  go_loopw [19] (fun v19 wr => ∃ i : Nat, v19 = .int .i64 (i : Int) ∧ Aside0 (i ≤ I.length ∧ badI a0 [] I = badI a0 (I.take i) (I.drop i) ∧ wr.heap[W.heap.size]? = some (.cells #[.int .i64 a0, .slice A1 E.length c1, .slice A2 I.length c2] 64 (0, 0)) ∧ Below W.heap.size W wr)) (fun v19 _ => (2000 - intOf v19).toNat)
  case atStart => exact ⟨0, rfl, ⟨Nat.zero_le _, rfl, blk_new W _, below_alloc (Below.refl _ W) _⟩⟩
  case round =>
   obtain ⟨i, rfl, HI⟩ := hrel
   have hbk := HI.out.2.2.1
   have hx0 : wr.cell? ⟨W.heap.size, 0, none⟩ = some (.int .i64 a0) := (blk_cell hbk 0).trans rfl
   have hx1 : wr.cell? ⟨W.heap.size, 1, none⟩ = some (.slice A1 E.length c1) := (blk_cell hbk 1).trans rfl
   have hx2 : wr.cell? ⟨W.heap.size, 2, none⟩ = some (.slice A2 I.length c2) := (blk_cell hbk 2).trans rfl
   clear hbk
   by_cases ci : i < I.length
   ·have d1 := decide_eq_true (show (i : Int) < (I.length : Int) by omega)
    have q0 : (0 : Int) ≤ (i : Int) := by omega
    have q1 : (i : Int) < (I.length : Int) := by omega
    have hwi : IntKind.i64.wrap ((i : Int) + 1) = (i : Int) + 1 := by rw [IntKind.wrap_i64]; omega
    have hcap := HC.out.2.2.2
    have q2 : (i : Int) ≤ (c2 : Int) := by omega
    have q3 : i ≤ c2 := by omega
    obtain ⟨ad, rfl, hy0⟩ := Kd.at_int (Kd.C_below HC.out.2.2.1 HI.out.2.2.2) (i : Int) q0 q1
    have hr : rd I (i : Int) = I[i] := by unfold rd; rw [Int.toNat_natCast, List.getD_eq_getElem?_getD, List.getElem?_eq_getElem ci]; rfl
    rw [hr, Int.toNat_natCast] at hy0
    obtain ⟨p, hp⟩ : ∃ x, I[i] = x := ⟨_, rfl⟩
    rw [hp] at hy0
    have HBB : Aside0 (badI a0 [] I = if p < 0 ∨ a0 ≤ p then some ([⟨inS, (i : Int)⟩], 2) else if p ∈ I.take i then some ([⟨inS, (i : Int)⟩], 1) else badI a0 (I.take (i + 1)) (I.drop (i + 1))) := ⟨by
     have h := HI.out.2.1
     rw [List.drop_eq_getElem_cons ci, badI, hp, List.length_take, Nat.min_eq_left (by omega)] at h
     rw [h, List.take_add_one, List.getElem?_eq_getElem ci, hp]
     rfl⟩
    have HJ := Aside0.mk ci
    have HCN : Aside0 (∀ w', Below W.heap.size W w' → Calls Tryd.prog 91 #[.slice (some ad) i c2, .int .i64 p] w' fun e w'' => e = .returned (.bool (decide (p ∈ I.take i))) ∧ Below w'.heap.size w' w'') := ⟨fun w' hb => by
     obtain ⟨k, hk⟩ := contains_ev p (I.take i) (by rw [List.length_take]; have := HLN.out; omega)
     have ht := C_take (Kd.C_below HC.out.2.2.1 hb) i (by omega)
     have hlt : (I.take i).length = i := by rw [List.length_take]; omega
     have h := slices_Contains_int_int.calls k (some ad) c2 (I.take i) p _ w' (by rw [hlt]; exact ht) (by rw [hlt]; omega) hk
     rw [hlt] at h
     exact h.mono fun e w'' hh => ⟨hh.1, hh.2.below⟩⟩
    have H0 := Aside0.mk (HH.out p wr HI.out.2.2.2)
    clear hp hr ci hcap
    by_cases b0 : p < 0 ∨ a0 ≤ p
    ·have hv : decide (0 ≤ p ∧ p < a0) = false := by rw [decide_eq_false_iff_not]; omega
     rw [hv] at H0
     have HL := Aside0.mk (show inp a0 I = some ([⟨inS, (i : Int)⟩], 2) from by rw [HIN.out, HBB.out, if_pos b0])
     have A5 := Aside0.mk (fun w => show Calls Tryd.prog 27 #[.iface 33 (.int .i64 2), .string ⟨#[105, 110, 112, 117, 116]⟩, .int .i64 (i : Int)] w _ from At_calls [] (.iface 33 (.int .i64 2)) 33 (.int .i64 2) inS (i : Int) w rfl)
     clear hv b0 HBB
     go_wp2_with (first
      | (go_at_call 90; ((with_reducible refine H0.out.mono ?_); rintro e w5 ⟨rfl, hb⟩; have HB5 := Aside0.mk (below_step HI.out.2.2.2 hb); clear hb))
      | (go_at_call 27; ((with_reducible refine (A5.out _).mono ?_); rintro e w6 ⟨v6, rfl, hE, hb⟩; have HE6 := Aside0.mk hE; have HB6 := Aside0.mk (below_step HB5.out hb); obtain ⟨u6, x6, rfl⟩ := hE.iface; clear hE hb)))
     go_ret
     exact ⟨_, rfl, HB6.out, by rw [HL.out]; exact HE6.out⟩
    ·have hv : decide (0 ≤ p ∧ p < a0) = true := decide_eq_true (by omega)
     rw [hv] at H0
     by_cases b1 : p ∈ I.take i
     ·have HL := Aside0.mk (show inp a0 I = some ([⟨inS, (i : Int)⟩], 1) from by rw [HIN.out, HBB.out, if_neg b0, if_pos b1])
      have hv1 : decide (p ∈ I.take i) = true := decide_eq_true b1
      rw [hv1] at HCN
      have A5 := Aside0.mk (fun w => show Calls Tryd.prog 27 #[.iface 33 (.int .i64 1), .string ⟨#[105, 110, 112, 117, 116]⟩, .int .i64 (i : Int)] w _ from At_calls [] (.iface 33 (.int .i64 1)) 33 (.int .i64 1) inS (i : Int) w rfl)
      clear hv hv1 b0 b1 HBB
      go_wp2_with (first
       | (go_at_call 90; ((with_reducible refine H0.out.mono ?_); rintro e w5 ⟨rfl, hb⟩; have HB5 := Aside0.mk (below_step HI.out.2.2.2 hb); have HG5 := Aside0.mk (blk_below HI.out.2.2.1 hb); have y2 : w5.cell? ⟨W.heap.size, 2, none⟩ = some (.slice (some ad) I.length c2) := (blk_cell HG5.out 2).trans rfl; clear hb))
       | (go_at_call 91; ((with_reducible refine (HCN.out _ HB5.out).mono ?_); rintro e w8 ⟨rfl, hb⟩; have HB8 := Aside0.mk (below_step HB5.out hb); clear hb))
       | (go_at_call 27; ((with_reducible refine (A5.out _).mono ?_); rintro e w6 ⟨v6, rfl, hE, hb⟩; have HE6 := Aside0.mk hE; have HB6 := Aside0.mk (below_step HB8.out hb); obtain ⟨u6, x6, rfl⟩ := hE.iface; clear hE hb)))
      go_ret
      exact ⟨_, rfl, HB6.out, by rw [HL.out]; exact HE6.out⟩
     ·have HL := Aside0.mk (show badI a0 [] I = badI a0 (I.take (i + 1)) (I.drop (i + 1)) from by rw [HBB.out, if_neg b0, if_neg b1])
      have hv1 : decide (p ∈ I.take i) = false := decide_eq_false b1
      rw [hv1] at HCN
      clear hv hv1 b0 b1 HBB
      go_wp2_with (first
       | (go_at_call 90; ((with_reducible refine H0.out.mono ?_); rintro e w5 ⟨rfl, hb⟩; have HB5 := Aside0.mk (below_step HI.out.2.2.2 hb); have HG5 := Aside0.mk (blk_below HI.out.2.2.1 hb); have y2 : w5.cell? ⟨W.heap.size, 2, none⟩ = some (.slice (some ad) I.length c2) := (blk_cell HG5.out 2).trans rfl; clear hb))
       | (go_at_call 91; ((with_reducible refine (HCN.out _ HB5.out).mono ?_); rintro e w8 ⟨rfl, hb⟩; have HB8 := Aside0.mk (below_step HB5.out hb); have HG8 := Aside0.mk (blk_below HG5.out hb); clear hb)))
      go_roundw
      case rel => exact ⟨i + 1, by first | rfl | exact congrArg _ hwi, ⟨by have := HJ.out; omega, HL.out, HG8.out, HB8.out⟩⟩
      case measure => have := HJ.out; have := HLN.out; simp only [intOf]; omega
   ·have d1 := decide_eq_false (show ¬ (i : Int) < (I.length : Int) by omega)
    have q1 : ¬ (i : Int) < (I.length : Int) := by omega
    have HL := Aside0.mk (show inp a0 I = none from by rw [HIN.out, HI.out.2.1, List.drop_eq_nil_of_le (by omega)]; rfl)
    have HB := Aside0.mk HI.out.2.2.2
    clear HI
    go_wp2
    go_ret
    exact ⟨_, rfl, HB.out, by rw [HL.out]; rfl⟩
open Go.Proofs.YtgeldmhgbnamcaaDoor.Q (S42 k42 S75 k75 S127 k127 graph_Graph_ways.f graph_Graph_ways.calls graph_Graph_cycle.f graph_Graph_cycle.calls)
open Go.Proofs.YtgeldmhgbnamcaaDoor.PureQ (c127 badE badI chk chk0 chk1 chk2 chk3 chk4 cycD cycV wE poS we_of we_c127 ed_c127 ways_ev cycle_ev mat mat_len pth chk_zero WE9)
open Go.Proofs.YtgeldmhgbnamcaaDoor.Pure.FW (In)
set_option maxRecDepth 100000
theorem check_next {w w1 w' : World} {n : Nat} {u0 u1 u2 : Value} (h : w1.cell? ⟨n, 0, none⟩ = some u0 ∧ w1.cell? ⟨n, 1, none⟩ = some u1 ∧ w1.cell? ⟨n, 2, none⟩ = some u2 ∧ n < w1.heap.size ∧ Below w.heap.size w w1) (hb : Below w1.heap.size w1 w') :
  w'.cell? ⟨n, 0, none⟩ = some u0 ∧ w'.cell? ⟨n, 1, none⟩ = some u1 ∧ w'.cell? ⟨n, 2, none⟩ = some u2 ∧ n < w'.heap.size ∧ Below w.heap.size w w' :=
 ⟨(hb.cell (p := ⟨n, 0, none⟩) h.2.2.2.1).trans h.1, (hb.cell (p := ⟨n, 1, none⟩) h.2.2.2.1).trans h.2.1, (hb.cell (p := ⟨n, 2, none⟩) h.2.2.2.1).trans h.2.2.1, Nat.lt_of_lt_of_le h.2.2.2.1 hb.size, below_step h.2.2.2.2 hb⟩
def CheckV (w : World) (v : Value) (r : List S42 × Int) : Prop := (r.2 = 0 → v = .nilIface) ∧ (r.2 ≠ 0 → ErrIs w (psOf r.1) v (.iface 33 (.int .i64 r.2)))
theorem checkV_no {w : World} {v : Value} {L : List S42} {k : Int} (hk : k ≠ 0) (h : ErrIs w (psOf L) v (.iface 33 (.int .i64 k))) : CheckV w v (L, k) := ⟨fun e => absurd e hk, fun _ => h⟩
theorem checkV_ok {w : World} : CheckV w .nilIface ([], 0) := ⟨fun _ => rfl, fun e => absurd rfl e⟩
theorem chk_E {a0 : Int} {E : List S75} {I : List Int} (c0 : ¬ (a0 < 1 ∨ 64 < a0)) (c1 : ¬ 256 < E.length) {L : List S42} (h : badE a0 0 E = some L) : chk a0 E I = (L, 2) := by
 unfold chk chk0
 rw [if_neg c0, if_neg c1, h]
 rfl
theorem chk_I {a0 : Int} {E : List S75} {I : List Int} (c0 : ¬ (a0 < 1 ∨ 64 < a0)) (c1 : ¬ 256 < E.length) (h : badE a0 0 E = none) {x : List S42 × Int} (hi : inp a0 I = some x) : chk a0 E I = x := by
 unfold chk chk0
 rw [if_neg c0, if_neg c1, h]
 show chk1 a0 E I = x
 unfold chk1
 unfold inp at hi
 by_cases hm : 8 < I.length ∨ I.length < 1
 ·rw [if_pos hm] at hi ⊢
  exact Option.some.inj hi
 ·rw [if_neg hm] at hi ⊢
  unfold chk2
  rw [hi]
  rfl
theorem chk_C {a0 : Int} {E : List S75} {I : List Int} (c0 : ¬ (a0 < 1 ∨ 64 < a0)) (c1 : ¬ 256 < E.length) (h : badE a0 0 E = none) (hi : inp a0 I = none) : chk a0 E I = chk4 (cycD (wE a0 E) E a0.toNat 0) := by
 unfold chk chk0
 rw [if_neg c0, if_neg c1, h]
 show chk1 a0 E I = _
 unfold chk1
 unfold inp at hi
 by_cases hm : 8 < I.length ∨ I.length < 1
 ·rw [if_pos hm] at hi
  cases hi
 ·rw [if_neg hm] at hi ⊢
  unfold chk2
  rw [hi]
  rfl
theorem inp_code {a0 : Int} {I : List Int} {x : List S42 × Int} (h : inp a0 I = some x) : x.2 ≠ 0 := by
 unfold inp at h
 split at h
 ·obtain rfl := Option.some.inj h; decide
 ·rcases Go.Proofs.YtgeldmhgbnamcaaDoor.PureQ.badI_code h with z | z <;> omega
theorem ways_two {a0 : Int} {E : List S75} {I : List Int} (hf : ∀ e ∈ E, In e.f2) (c0 : ¬ (a0 < 1 ∨ 64 < a0)) (c1 : ¬ 256 < E.length) (h : badE a0 0 E = none) :
  ∃ k, graph_Graph_ways.f k a0 (E.map c127) I = some (mat a0.toNat (wE a0 E)) ∧ graph_Graph_cycle.f k a0 (E.map c127) I (mat a0.toNat (wE a0 E)) = some (cycV (cycD (wE a0 E) E a0.toNat 0)) := by
 have hW := we_of hf (by omega) h
 obtain ⟨K1, h1⟩ := ways_ev I (we_c127 hW) (by omega) (by rw [List.length_map]; omega)
 obtain ⟨K2, h2⟩ := cycle_ev (a0 := a0) (I := I) (M := wE a0 E) hW (by omega)
 have h1 := h1 (K1 + K2) (by omega)
 have h2 := h2 (K1 + K2) (by omega)
 dsimp only at h1 h2
 rw [ed_c127, show ((a0.toNat : Nat) : Int) = a0 by omega] at h1
 exact ⟨_, h1, h2⟩
set_option maxHeartbeats 16000000 in
theorem Check_C (a0 : Int) (A1 : Option Addr) (c1 : Nat) (E : List S75) (A2 : Option Addr) (c2 : Nat) (I : List Int) (W : World) (hC1 : Kd.C k127 W A1 (E.map c127).length (E.map c127)) (hc1 : (E.map c127).length ≤ c1) (hC2 : Kd.C (Kd.int .i64) W A2 I.length I) (hc2 : I.length ≤ c2) (hl : E.length ≤ 1000) (hf : ∀ e ∈ E, In e.f2) :
  Calls Tryd.prog 34 #[.agg #[.int .i64 a0, .slice A1 E.length c1, .slice A2 I.length c2]] W fun e w' => ∃ v, e = .returned v ∧ Below W.heap.size W w' ∧ CheckV w' v (chk a0 E I) := by
 by_cases n0 : a0 < 1 ∨ 64 < a0
 ·have HL := Aside0.mk (show chk a0 E I = ([], 2) from if_pos n0)
  rcases (show (a0 < 1) ∨ (¬ a0 < 1 ∧ 64 < a0) by omega) with g1 | ⟨g1, g2⟩
  ·have d1 := decide_eq_true g1
   clear hC1 hC2 hc1 hc2 n0
   go_enter Tryd.func34, Tryd.ntmps34
   go_wp2
   go_ret
   exact ⟨_, rfl, below_alloc (Below.refl _ W) _, by rw [HL.out]; exact checkV_no (by decide) rfl⟩
  ·have d1 := decide_eq_false g1
   have d2 := decide_eq_true g2
   clear hC1 hC2 hc1 hc2 n0
   go_enter Tryd.func34, Tryd.ntmps34
   go_wp2
   go_ret
   exact ⟨_, rfl, below_alloc (Below.refl _ W) _, by rw [HL.out]; exact checkV_no (by decide) rfl⟩
 ·have g1 : ¬ a0 < 1 := by omega
  have g2 : ¬ 64 < a0 := by omega
  have d1 := decide_eq_false g1
  have d2 := decide_eq_false g2
  by_cases n1 : 256 < E.length
  ·have HL := Aside0.mk (show chk a0 E I = ([], 4) from by unfold chk; rw [if_neg n0, if_pos n1])
   have g3 : (256 : Int) < (E.length : Int) := by omega
   have d3 := decide_eq_true g3
   clear hC1 hC2 hc1 hc2 n0
   go_enter Tryd.func34, Tryd.ntmps34
   go_wp2
   go_ret
   exact ⟨_, rfl, below_alloc (Below.refl _ W) _, by rw [HL.out]; exact checkV_no (by decide) rfl⟩
  ·have g3 : ¬ (256 : Int) < (E.length : Int) := by omega
   have d3 := decide_eq_false g3
   have HN := Aside0.mk (show ¬ (a0 < 1 ∨ 64 < a0) ∧ ¬ 256 < E.length from ⟨n0, n1⟩)
   have HC := Aside0.mk (show Kd.C k127 W A1 (E.map c127).length (E.map c127) ∧ (E.map c127).length ≤ c1 ∧ Kd.C (Kd.int .i64) W A2 I.length I ∧ I.length ≤ c2 from ⟨hC1, hc1, hC2, hc2⟩)
   have HF := Aside0.mk hf
   have HED := Aside0.mk (fun w' (hb : Below W.heap.size W w') => edges_C a0 A1 c1 E A2 c2 I w' (Kd.C_below hC1 hb) hc1 (Kd.C_below hC2 hb) hc2 hl)
   have HIN := Aside0.mk (fun w' (hb : Below W.heap.size W w') => inputs_C a0 A1 c1 E A2 c2 I w' (Kd.C_below hC1 hb) hc1 (Kd.C_below hC2 hb) hc2)
   have HS0 : Aside0 (_ ∧ _ ∧ _ ∧ _ ∧ _) := ⟨show (W.alloc (.cells #[.int .i64 a0, .slice A1 E.length c1, .slice A2 I.length c2] 64)).cell? ⟨W.heap.size, 0, none⟩ = some (.int .i64 a0) by simp [go_sem], show (W.alloc (.cells #[.int .i64 a0, .slice A1 E.length c1, .slice A2 I.length c2] 64)).cell? ⟨W.heap.size, 1, none⟩ = some (.slice A1 E.length c1) by simp [go_sem], show (W.alloc (.cells #[.int .i64 a0, .slice A1 E.length c1, .slice A2 I.length c2] 64)).cell? ⟨W.heap.size, 2, none⟩ = some (.slice A2 I.length c2) by simp [go_sem], show W.heap.size < (W.alloc (.cells #[.int .i64 a0, .slice A1 E.length c1, .slice A2 I.length c2] 64)).heap.size by simp, show Below W.heap.size W (W.alloc (.cells #[.int .i64 a0, .slice A1 E.length c1, .slice A2 I.length c2] 64)) from below_alloc (Below.refl _ W) _⟩
   clear hC1 hC2 hc1 hc2 n0 n1 hf
   cases hbe : badE a0 0 E with
   | some L =>
    have HL := Aside0.mk (chk_E (I := I) HN.out.1 HN.out.2 hbe)
    rw [hbe] at HED
    clear hbe
    go_enter Tryd.func34, Tryd.ntmps34
    go_wp2_with (first | (go_at_call 67; ((with_reducible refine (HED.out _ HS0.out.2.2.2.2).mono ?_); rintro e w2 ⟨v2, rfl, hb, hV⟩; have HV := Aside0.mk (show ErrIs w2 (psOf L) v2 (.iface 33 (.int .i64 2)) from hV); have HB := Aside0.mk (below_step HS0.out.2.2.2.2 hb); obtain ⟨u2, x2, rfl⟩ := HV.out.iface; clear hb hV)))
    go_ret
    exact ⟨_, rfl, HB.out, by rw [HL.out]; exact checkV_no (by decide) HV.out⟩
   | none =>
    have HBE := Aside0.mk hbe
    rw [hbe] at HED
    clear hbe
    cases hin : inp a0 I with
    | some x =>
     have HL := Aside0.mk (chk_I HN.out.1 HN.out.2 HBE.out hin)
     have HX := Aside0.mk (inp_code hin)
     rw [hin] at HIN
     clear hin
     go_enter Tryd.func34, Tryd.ntmps34
     go_wp2_with (first
      | (go_at_call 67; ((with_reducible refine (HED.out _ HS0.out.2.2.2.2).mono ?_); rintro e w2 ⟨v2, rfl, hb, hV⟩; obtain rfl : v2 = .nilIface := hV; have HS2 := Aside0.mk (check_next HS0.out hb); have hx0 := HS2.out.1; have hx1 := HS2.out.2.1; have hx2 := HS2.out.2.2.1; clear hb))
      | (go_at_call 68; ((with_reducible refine (HIN.out _ HS2.out.2.2.2.2).mono ?_); rintro e w3 ⟨v3, rfl, hb, hV⟩; have HV := Aside0.mk (show ErrIs w3 (psOf x.1) v3 (.iface 33 (.int .i64 x.2)) from hV); have HB := Aside0.mk (below_step HS2.out.2.2.2.2 hb); obtain ⟨u3, x3, rfl⟩ := HV.out.iface; clear hb hV)))
     go_ret
     exact ⟨_, rfl, HB.out, by rw [HL.out]; exact checkV_no HX.out HV.out⟩
    | none =>
     have HL := Aside0.mk (chk_C HN.out.1 HN.out.2 HBE.out hin)
     rw [hin] at HIN
     obtain ⟨kw, hw1, hw2⟩ := ways_two (I := I) HF.out HN.out.1 HN.out.2 HBE.out
     have HWY := Aside0.mk (show Aside0 _ ∧ Aside0 _ from ⟨⟨hw1⟩, ⟨hw2⟩⟩)
     clear hin hw1 hw2
     obtain ⟨M, hM⟩ : ∃ M, mat a0.toNat (wE a0 E) = M := ⟨_, rfl⟩
     rw [hM] at HWY
     clear hM
     cases hcy : cycD (wE a0 E) E a0.toNat 0 with
     | some q =>
      rw [hcy] at HWY HL
      obtain ⟨p, hp⟩ : ∃ p : Int, (q : Int) = p := ⟨_, rfl⟩
      have HW2 := Aside0.mk (show graph_Graph_cycle.f kw a0 (E.map c127) I M = some p from by have h := HWY.out.2.out; rw [← hp]; exact h)
      have HL2 := Aside0.mk (show chk a0 E I = ([⟨poS, p⟩], 3) from by rw [HL.out, ← hp]; rfl)
      have b4 : decide (0 ≤ p) = true := decide_eq_true (by omega)
      have b5 : 0 ≤ p := by omega
      clear hp hcy HL
      go_enter Tryd.func34, Tryd.ntmps34
      go_wp2_with (first
       | (go_at_call 67; ((with_reducible refine (HED.out _ HS0.out.2.2.2.2).mono ?_); rintro e w2 ⟨v2, rfl, hb, hV⟩; obtain rfl : v2 = .nilIface := hV; have HS2 := Aside0.mk (check_next HS0.out hb); have hx0 := HS2.out.1; have hx1 := HS2.out.2.1; have hx2 := HS2.out.2.2.1; clear hb))
       | (go_at_call 68; ((with_reducible refine (HIN.out _ HS2.out.2.2.2.2).mono ?_); rintro e w3 ⟨v3, rfl, hb, hV⟩; obtain rfl : v3 = .nilIface := hV; have HS3 := Aside0.mk (check_next HS2.out hb); clear hb)))
      have HSD := Aside0.mk (check_next HS3.out (below_drew (Below.refl _ _)))
      go_region_held3 (fun w' => w'.cell? ⟨W.heap.size, 0, none⟩ = some (.int .i64 a0) ∧ w'.cell? ⟨W.heap.size, 1, none⟩ = some (.slice A1 E.length c1) ∧ w'.cell? ⟨W.heap.size, 2, none⟩ = some (.slice A2 I.length c2) ∧ W.heap.size < w'.heap.size ∧ Below W.heap.size W w')
       (first | exact HSD.out | exact hN)
       (first
        | (go_at_call 70; (have ww := graph_Graph_ways.calls kw a0 A1 c1 (E.map c127) A2 c2 I M _ (Kd.C_below HC.out.1 HSD.out.2.2.2.2) HC.out.2.1 (Kd.C_below HC.out.2.2.1 HSD.out.2.2.2.2) HC.out.2.2.2 HWY.out.1.out); rw [List.length_map] at ww; (with_reducible refine ww.mono ?_); clear ww; rintro e w4 ⟨v4, rfl, hs, hb⟩; obtain ⟨A4, c4, rfl⟩ := Kd.S_slice hs; have HM := Aside0.mk hs; have hN := check_next HSD.out hb; have HN4 := Aside0.mk hN; clear hs hb)
        | (go_at_call 69; (have ww := graph_Graph_cycle.calls kw a0 A1 c1 (E.map c127) A2 c2 I A4 c4 M p _ (Kd.C_below HC.out.1 HN4.out.2.2.2.2) HC.out.2.1 (Kd.C_below HC.out.2.2.1 HN4.out.2.2.2.2) HC.out.2.2.2 (Kd.S_reads' HM.out).2.2 (Kd.S_reads' HM.out).2.1 HW2.out); rw [List.length_map] at ww; (with_reducible refine ww.mono ?_); clear ww; rintro e w5 ⟨rfl, hb⟩; have hN := check_next HN4.out hb; clear hb))
      all_goals
       rename_i hH
       have HB5 := Aside0.mk hH.2.2.2.2
       clear hH
       have A5 := Aside0.mk (fun w => show Calls Tryd.prog 27 #[.iface 33 (.int .i64 3), .string ⟨#[112, 111, 114, 116]⟩, .int .i64 p] w _ from At_calls [] (.iface 33 (.int .i64 3)) 33 (.int .i64 3) poS p w rfl)
       go_wp2_with (first | (go_at_call 27; ((with_reducible refine (A5.out _).mono ?_); rintro e w6 ⟨v6, rfl, hE6, hb⟩; have HE6 := Aside0.mk hE6; have HB6 := Aside0.mk (below_step HB5.out hb); clear hE6 hb)))
       go_ret
       exact ⟨_, rfl, HB6.out, by rw [HL2.out]; exact checkV_no (by decide) HE6.out⟩
     | none =>
      rw [hcy] at HWY HL
      have HW2 := Aside0.mk (show graph_Graph_cycle.f kw a0 (E.map c127) I M = some (-1) from HWY.out.2.out)
      have HL2 := Aside0.mk (show chk a0 E I = ([], 0) from HL.out)
      have b4 : decide ((0 : Int) ≤ -1) = false := by decide
      clear hcy HL
      go_enter Tryd.func34, Tryd.ntmps34
      go_wp2_with (first
       | (go_at_call 67; ((with_reducible refine (HED.out _ HS0.out.2.2.2.2).mono ?_); rintro e w2 ⟨v2, rfl, hb, hV⟩; obtain rfl : v2 = .nilIface := hV; have HS2 := Aside0.mk (check_next HS0.out hb); have hx0 := HS2.out.1; have hx1 := HS2.out.2.1; have hx2 := HS2.out.2.2.1; clear hb))
       | (go_at_call 68; ((with_reducible refine (HIN.out _ HS2.out.2.2.2.2).mono ?_); rintro e w3 ⟨v3, rfl, hb, hV⟩; obtain rfl : v3 = .nilIface := hV; have HS3 := Aside0.mk (check_next HS2.out hb); clear hb)))
      have HSD := Aside0.mk (check_next HS3.out (below_drew (Below.refl _ _)))
      go_region_held3 (fun w' => w'.cell? ⟨W.heap.size, 0, none⟩ = some (.int .i64 a0) ∧ w'.cell? ⟨W.heap.size, 1, none⟩ = some (.slice A1 E.length c1) ∧ w'.cell? ⟨W.heap.size, 2, none⟩ = some (.slice A2 I.length c2) ∧ W.heap.size < w'.heap.size ∧ Below W.heap.size W w')
       (first | exact HSD.out | exact hN)
       (first
        | (go_at_call 70; (have ww := graph_Graph_ways.calls kw a0 A1 c1 (E.map c127) A2 c2 I M _ (Kd.C_below HC.out.1 HSD.out.2.2.2.2) HC.out.2.1 (Kd.C_below HC.out.2.2.1 HSD.out.2.2.2.2) HC.out.2.2.2 HWY.out.1.out); rw [List.length_map] at ww; (with_reducible refine ww.mono ?_); clear ww; rintro e w4 ⟨v4, rfl, hs, hb⟩; obtain ⟨A4, c4, rfl⟩ := Kd.S_slice hs; have HM := Aside0.mk hs; have hN := check_next HSD.out hb; have HN4 := Aside0.mk hN; clear hs hb)
        | (go_at_call 69; (have ww := graph_Graph_cycle.calls kw a0 A1 c1 (E.map c127) A2 c2 I A4 c4 M (-1) _ (Kd.C_below HC.out.1 HN4.out.2.2.2.2) HC.out.2.1 (Kd.C_below HC.out.2.2.1 HN4.out.2.2.2.2) HC.out.2.2.2 (Kd.S_reads' HM.out).2.2 (Kd.S_reads' HM.out).2.1 HW2.out); rw [List.length_map] at ww; (with_reducible refine ww.mono ?_); clear ww; rintro e w5 ⟨rfl, hb⟩; have hN := check_next HN4.out hb; clear hb))
      all_goals
       rename_i hH
       have HB5 := Aside0.mk hH.2.2.2.2
       clear hH
       go_wp2
       go_ret
       exact ⟨_, rfl, HB5.out, by rw [HL2.out]; exact checkV_ok⟩
open Go.Proofs.YtgeldmhgbnamcaaDoor.Q (S42 k42 S75 k75 S127 k127 graph_Graph_ways.f graph_Graph_ways.calls)
open Go.Proofs.YtgeldmhgbnamcaaDoor.PureQ (c127 chk wE mat pth chk_zero)
set_option maxRecDepth 100000
set_option maxHeartbeats 16000000 in
theorem Paths_C (a0 : Int) (A1 : Option Addr) (c1 : Nat) (E : List S75) (A2 : Option Addr) (c2 : Nat) (I : List Int) (W : World) (hC1 : Kd.C k127 W A1 (E.map c127).length (E.map c127)) (hc1 : (E.map c127).length ≤ c1) (hC2 : Kd.C (Kd.int .i64) W A2 I.length I) (hc2 : I.length ≤ c2) (hl : E.length ≤ 1000) (hf : ∀ e ∈ E, In e.f2) :
  Calls Tryd.prog 39 #[.agg #[.int .i64 a0, .slice A1 E.length c1, .slice A2 I.length c2]] W fun e w' => ∃ A c, e = .returned (.slice A (pth a0 E I).length c) ∧ Kd.C (Kd.slice 22 (Kd.int .u64)) w' A (pth a0 E I).length (pth a0 E I) ∧ (pth a0 E I).length ≤ c ∧ Below W.heap.size W w' := by
 have HC := Aside0.mk (show Kd.C k127 W A1 (E.map c127).length (E.map c127) ∧ (E.map c127).length ≤ c1 ∧ Kd.C (Kd.int .i64) W A2 I.length I ∧ I.length ≤ c2 from ⟨hC1, hc1, hC2, hc2⟩)
 have HCK := Aside0.mk (fun w' (hb : Below W.heap.size W w') => Check_C a0 A1 c1 E A2 c2 I w' (Kd.C_below hC1 hb) hc1 (Kd.C_below hC2 hb) hc2 hl hf)
 have HS0 : Aside0 (_ ∧ _ ∧ _ ∧ _ ∧ _) := ⟨show (W.alloc (.cells #[.int .i64 a0, .slice A1 E.length c1, .slice A2 I.length c2] 64)).cell? ⟨W.heap.size, 0, none⟩ = some (.int .i64 a0) by simp [go_sem], show (W.alloc (.cells #[.int .i64 a0, .slice A1 E.length c1, .slice A2 I.length c2] 64)).cell? ⟨W.heap.size, 1, none⟩ = some (.slice A1 E.length c1) by simp [go_sem], show (W.alloc (.cells #[.int .i64 a0, .slice A1 E.length c1, .slice A2 I.length c2] 64)).cell? ⟨W.heap.size, 2, none⟩ = some (.slice A2 I.length c2) by simp [go_sem], show W.heap.size < (W.alloc (.cells #[.int .i64 a0, .slice A1 E.length c1, .slice A2 I.length c2] 64)).heap.size by simp, show Below W.heap.size W (W.alloc (.cells #[.int .i64 a0, .slice A1 E.length c1, .slice A2 I.length c2] 64)) from below_alloc (Below.refl _ W) _⟩
 clear hC1 hC2 hc1 hc2
 by_cases h0 : (chk a0 E I).2 = 0
 ·have HP := Aside0.mk (show pth a0 E I = mat a0.toNat (wE a0 E) from if_pos h0)
  have hz := chk_zero h0
  have HV0 := Aside0.mk (fun (w : World) (v : Value) (h : CheckV w v (chk a0 E I)) => h.1 h0)
  obtain ⟨kw, hw1, -⟩ := ways_two (I := I) hf (by omega) (by omega) hz.2.2.1
  have HWY := Aside0.mk hw1
  clear hz hw1 h0 hf
  obtain ⟨M, hM⟩ : ∃ M, mat a0.toNat (wE a0 E) = M := ⟨_, rfl⟩
  rw [hM] at HWY HP
  rw [HP.out]
  clear hM
  go_enter Tryd.func39, Tryd.ntmps39
  go_wp2_with (first
   | (go_at_call 34; ((with_reducible refine (HCK.out _ HS0.out.2.2.2.2).mono ?_); rintro e w2 ⟨v2, rfl, hb, hV⟩; obtain rfl : v2 = .nilIface := HV0.out _ _ hV; have HS2 := Aside0.mk (check_next HS0.out hb); have hx0 := HS2.out.1; have hx1 := HS2.out.2.1; have hx2 := HS2.out.2.2.1; clear hb hV))
   | (go_at_call 70; (have ww := graph_Graph_ways.calls kw a0 A1 c1 (E.map c127) A2 c2 I M _ (Kd.C_below HC.out.1 HS2.out.2.2.2.2) HC.out.2.1 (Kd.C_below HC.out.2.2.1 HS2.out.2.2.2.2) HC.out.2.2.2 HWY.out); rw [List.length_map] at ww; (with_reducible refine ww.mono ?_); clear ww; rintro e w4 ⟨v4, rfl, hs, hb⟩; obtain ⟨A4, c4, rfl⟩ := Kd.S_slice hs; have HM := Aside0.mk hs; have HB4 := Aside0.mk (below_step HS2.out.2.2.2.2 hb); clear hs hb))
  go_ret
  exact ⟨_, _, rfl, (Kd.S_reads' HM.out).2.2, (Kd.S_reads' HM.out).2.1, HB4.out⟩
 ·have HP := Aside0.mk (show pth a0 E I = [] from if_neg h0)
  have HV0 := Aside0.mk (fun (w : World) (v : Value) (h : CheckV w v (chk a0 E I)) => h.2 h0)
  clear h0 hf
  rw [HP.out]
  go_enter Tryd.func39, Tryd.ntmps39
  go_wp2_with (first
   | (go_at_call 34; ((with_reducible refine (HCK.out _ HS0.out.2.2.2.2).mono ?_); rintro e w2 ⟨v2, rfl, hb, hV⟩; have hE := HV0.out _ _ hV; obtain ⟨u2, x2, rfl⟩ := hE.iface; have HB := Aside0.mk (below_step HS0.out.2.2.2.2 hb); clear hb hV hE)))
  go_ret
  exact ⟨none, 0, rfl, Kd.C_nil _ _, Nat.le_refl _, HB.out⟩
end Go.Proofs.YtgeldmhgbnamcaaDoor.G
end
