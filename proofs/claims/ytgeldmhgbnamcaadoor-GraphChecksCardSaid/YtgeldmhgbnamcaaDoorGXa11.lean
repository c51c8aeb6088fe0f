/- Walks and laws of several statements of this seat, joined into one text; no condition. -/
import Derived.Test.YtgeldmhgbnamcaaDoorProg
import Derived.Below
import Derived.Deep.Draws
import Derived.Deep.AppendLies
import Derived.Maps.AppendAt
import Derived.OwnWalk
import Derived.Laws.BytesArg
import Derived.Laws.MakeOwn
import Derived.Laws.OwnMore
import Derived.Deep.OwnRows
import Derived.Tactics
import Derived.Lib.ConvBytes
import Derived.Laws.Slices
import Derived.WalkKit
import Derived.KernelRfl
import Derived.RowKit3
import Derived.Deep.LoopGhost
import Derived.Deep.QuietTactic
import Derived.BigQuiet
import Derived.WideLaws
import Derived.Deep.DeepCutAuto
import Derived.Deep.CutBlock
import Derived.Deep.RegionHeld3
import Derived.Laws.Rows
import Derived.Lib.AppendStr
import Derived.ArgAppend
import Derived.Laws.IdiomCopy
import Derived.OrdersHeld
import Derived.Laws.BitsLemmas
import Derived.RowKit
import Derived.Laws.StructEq
import Derived.Laws.CopyOwn
import Derived.Deep.RegionLaw
import Derived.LoopTactic
import Derived.Outline
import Derived.IntWalk
import Derived.LaidEql
import Derived.Stop.Asserts
import Derived.RowKitTokens
import Derived.Elder7
import Derived.Lib.ItoaLen
import Derived.Lib.ParseIntB
import Derived.Shelf.Strconv.Itoa3
import Derived.Lib.AppendIntMem
import Derived.Deep.Slices
import Derived.SizedLaws
import Derived.OpenShut
import Derived.Lib.SmallJoins
import Derived.Test.YtgeldmhgbnamcaaDoorRows
import Derived.LaidLaws
import Derived.LaidHandle
import Derived.Lay
import Derived.Stop.LaidErr
import Derived.Test.YtgeldmhgbnamcaaDoorGXa0
import Derived.Test.YtgeldmhgbnamcaaDoorGXa1
import Derived.Test.YtgeldmhgbnamcaaDoorGXa2
import Derived.Test.YtgeldmhgbnamcaaDoorGXa9
import Derived.Test.YtgeldmhgbnamcaaDoorGXa8
import Derived.Test.YtgeldmhgbnamcaaDoorGXa3
import Derived.Test.YtgeldmhgbnamcaaDoorGXa5
import Derived.Test.YtgeldmhgbnamcaaDoorGXa6
import Derived.Test.YtgeldmhgbnamcaaDoorGXa7
import Derived.Test.YtgeldmhgbnamcaaDoorGXa10
import Derived.Test.YtgeldmhgbnamcaaDoorGXa4
section
namespace Go.Proofs.YtgeldmhgbnamcaaDoor.G
open Go.Proofs.YtgeldmhgbnamcaaDoor.P (mk_)
open Go.RowKit Go.Proofs.YtgeldmhgbnamcaaDoorW.PrintWords Go.Proofs.YtgeldmhgbnamcaaDoorW.PrintLast Go.Proofs.YtgeldmhgbnamcaaDoorW.PrintMore
attribute [local go_sem] max2_int min2_int max_two min_two
set_option linter.unusedVariables false
set_option linter.unusedSimpArgs false
set_option maxRecDepth 100000
set_option maxHeartbeats 16000000 in
theorem few_C (a0 : Int) (A1 : Option Addr) (n1 c1 : Nat) (A2 : Option Addr) (n2 c2 : Nat) (W : World) (h1 : n1 ≤ c1) (h2 : n2 ≤ c2) :
  Calls Tryd.prog 33 #[.agg #[.int .i64 a0, .slice A1 n1 c1, .slice A2 n2 c2]] W fun e w' => e = .returned (.agg #[.int .i64 a0, .slice A1 (min n1 300) c1, .slice A2 (min n2 20) c2]) ∧ Below W.heap.size W w' := by
 obtain ⟨m1, hm1⟩ : ∃ m, min n1 300 = m := ⟨_, rfl⟩
 obtain ⟨m2, hm2⟩ : ∃ m, min n2 20 = m := ⟨_, rfl⟩
 rw [hm1, hm2]
 have k1 : (if (300 : Int) < (n1 : Int) then (300 : Int) else (n1 : Int)) = (m1 : Int) := by split <;> omega
 have k2 : (if (20 : Int) < (n2 : Int) then (20 : Int) else (n2 : Int)) = (m2 : Int) := by split <;> omega
 have e1 : (m1 : Int) ≤ (c1 : Int) := by omega
 have e2 : (m2 : Int) ≤ (c2 : Int) := by omega
 have e3 : m1 ≤ c1 := by omega
 have e4 : m2 ≤ c2 := by omega
 clear hm1 hm2
 go_enter Tryd.func33, Tryd.ntmps33
 go_upto_region 1 with fail
 have hz : (W.alloc (.cells #[.int .i64 a0, .slice A1 n1 c1, .slice A2 n2 c2] 59)).heap.size = W.heap.size + 1 := by simp
 have HG := Aside0.mk (blk_alloc (blk_new W (.cells #[.int .i64 a0, .slice A1 n1 c1, .slice A2 n2 c2] 59)) (.cells #[.int .i64 0, .slice none 0 0, .slice none 0 0] 59))
 have ht := blk_new (W.alloc (.cells #[.int .i64 a0, .slice A1 n1 c1, .slice A2 n2 c2] 59)) (.cells #[.int .i64 0, .slice none 0 0, .slice none 0 0] 59)
 rw [hz] at ht
 have HT := Aside0.mk ht
 have HB := Aside0.mk (below_alloc (below_alloc (Below.refl _ W) (.cells #[.int .i64 a0, .slice A1 n1 c1, .slice A2 n2 c2] 59)) (.cells #[.int .i64 0, .slice none 0 0, .slice none 0 0] 59))
 have HBG := Aside0.mk (Nat.le_refl W.heap.size)
 clear ht hz
 generalize (W.alloc (.cells #[.int .i64 a0, .slice A1 n1 c1, .slice A2 n2 c2] 59)).alloc (.cells #[.int .i64 0, .slice none 0 0, .slice none 0 0] 59) = w2 at HG HT HB ⊢
 replace HBG : Aside0 (W.heap.size ≤ W.heap.size) := HBG
 obtain ⟨gb, hgb⟩ : ∃ g, W.heap.size = g := ⟨_, rfl⟩
 rw [hgb] at HG HT ⊢
 have HBG := Aside0.mk (show W.heap.size ≤ gb by omega)
 have HGB := Aside0.mk hgb
 clear hgb
 have hx1 : w2.cell? ⟨gb, 1, none⟩ = some (.slice A1 n1 c1) := (blk_cell HG.out 1).trans rfl
 have hx2 : w2.cell? ⟨gb, 2, none⟩ = some (.slice A2 n2 c2) := (blk_cell HG.out 2).trans rfl
 have hx0 : w2.cell? ⟨gb, 0, none⟩ = some (.int .i64 a0) := (blk_cell HG.out 0).trans rfl
 refine start_ (n := 18) (S := (fun w' => w'.cell? ⟨gb, 1, none⟩ = some (.slice A1 n1 c1) ∧ w'.cell? ⟨gb, 2, none⟩ = some (.slice A2 n2 c2))) (ds := [15, 17]) (mk_ 0 18) (by kernel_rfl) rfl rfl ⟨hx1, hx2⟩ (fun hHeld => ?_)
 have HGd := Aside0.mk (show w2.drew.heap[gb]? = _ from HG.out)
 have HTd := Aside0.mk (show w2.drew.heap[gb + 1]? = _ from HT.out)
 have HBd := Aside0.mk (below_drew HB.out)
 clear hx0 hx1 hx2 HG HT HB
 generalize w2.drew = w2d at HGd HTd HBd hHeld ⊢
 replace HGd : Aside0 (w2d.heap[gb]? = some (.cells #[.int .i64 a0, .slice A1 n1 c1, .slice A2 n2 c2] 59 (0, 0))) := HGd
 refine pure_ (i := 0) (N := some 3) (v := ?_) (a' := ?_) (mk_ 1 17) rfl rfl (by kernel_rfl) (fun _ _ _ h => h) (Or.inl ⟨by rfl, ?_⟩) ?_ ?_
 rotate_left
 ·intro w'
  go_simp
  with_reducible rfl
 rotate_left
 ·simp only [Act.put, List.setIfInBounds_toArray, List.set_cons_zero, List.set_cons_succ]
  rfl
 refine take_ (i := 1) (N := some 4) (v := ?_) (a' := ?_) (mk_ 2 16) rfl rfl (by kernel_rfl) (fun _ _ _ h => h) (Or.inl ⟨by rfl, ?_⟩) hHeld ?_ ?_
 rotate_left
 ·rintro w' ⟨s1_, s2_⟩
  go_simp
  with_reducible rfl
 rotate_left
 ·simp only [Act.put, List.setIfInBounds_toArray, List.set_cons_zero, List.set_cons_succ]
  rfl
 refine pure_ (i := 2) (N := some 5) (v := ?_) (a' := ?_) (mk_ 3 15) rfl rfl (by kernel_rfl) (fun _ _ _ h => h) (Or.inl ⟨by rfl, ?_⟩) ?_ ?_
 rotate_left
 ·intro w'
  go_simp
  with_reducible rfl
 rotate_left
 ·simp only [Act.put, List.setIfInBounds_toArray, List.set_cons_zero, List.set_cons_succ]
  rfl
 refine take_ (i := 3) (N := some 6) (v := ?_) (a' := ?_) (mk_ 4 14) rfl rfl (by kernel_rfl) (fun _ _ _ h => h) (Or.inl ⟨by rfl, ?_⟩) hHeld ?_ ?_
 rotate_left
 ·rintro w' ⟨s1_, s2_⟩
  go_simp
  with_reducible rfl
 rotate_left
 ·simp only [Act.put, List.setIfInBounds_toArray, List.set_cons_zero, List.set_cons_succ]
  rfl
 refine pure_ (i := 4) (N := some 7) (v := ?_) (a' := ?_) (mk_ 5 13) rfl rfl (by kernel_rfl) (fun _ _ _ h => h) (Or.inl ⟨by rfl, ?_⟩) ?_ ?_
 rotate_left
 ·intro w'
  go_simp
  with_reducible rfl
 rotate_left
 ·simp only [Act.put, List.setIfInBounds_toArray, List.set_cons_zero, List.set_cons_succ]
  rfl
 refine pure_ (i := 5) (N := some 8) (v := ?_) (a' := ?_) (mk_ 6 12) rfl rfl (by kernel_rfl) (fun _ _ _ h => h) (Or.inl ⟨by rfl, ?_⟩) ?_ ?_
 rotate_left
 ·intro w'
  go_simp
  with_reducible rfl
 rotate_left
 ·simp only [Act.put, List.setIfInBounds_toArray, List.set_cons_zero, List.set_cons_succ]
  rfl
 refine pure_ (i := 6) (N := some 9) (v := ?_) (a' := ?_) (mk_ 7 11) rfl rfl (by kernel_rfl) (fun _ _ _ h => h) (Or.inl ⟨by rfl, ?_⟩) ?_ ?_
 rotate_left
 ·intro w'
  go_simp
  with_reducible rfl
 rotate_left
 ·simp only [Act.put, List.setIfInBounds_toArray, List.set_cons_zero, List.set_cons_succ]
  rfl
 refine pure_ (i := 7) (N := some 10) (v := ?_) (a' := ?_) (mk_ 8 10) rfl rfl (by kernel_rfl) (fun _ _ _ h => h) (Or.inl ⟨by rfl, ?_⟩) ?_ ?_
 rotate_left
 ·intro w'
  go_simp
  with_reducible rfl
 rotate_left
 ·simp only [Act.put, List.setIfInBounds_toArray, List.set_cons_zero, List.set_cons_succ]
  rfl
 refine take_ (i := 8) (N := some 11) (v := ?_) (a' := ?_) (mk_ 9 9) rfl rfl (by kernel_rfl) (fun _ _ _ h => h) (Or.inl ⟨by rfl, ?_⟩) hHeld ?_ ?_
 rotate_left
 ·rintro w' ⟨s1_, s2_⟩
  go_simp
  with_reducible rfl
 rotate_left
 ·simp only [Act.put, List.setIfInBounds_toArray, List.set_cons_zero, List.set_cons_succ]
  rfl
 refine pure_ (i := 9) (N := some 12) (v := ?_) (a' := ?_) (mk_ 10 8) rfl rfl (by kernel_rfl) (fun _ _ _ h => h) (Or.inl ⟨by rfl, ?_⟩) ?_ ?_
 rotate_left
 ·intro w'
  go_simp
  with_reducible rfl
 rotate_left
 ·simp only [Act.put, List.setIfInBounds_toArray, List.set_cons_zero, List.set_cons_succ]
  rfl
 refine take_ (i := 10) (N := some 13) (v := ?_) (a' := ?_) (mk_ 11 7) rfl rfl (by kernel_rfl) (fun _ _ _ h => h) (Or.inl ⟨by rfl, ?_⟩) hHeld ?_ ?_
 rotate_left
 ·rintro w' ⟨s1_, s2_⟩
  go_simp
  with_reducible rfl
 rotate_left
 ·simp only [Act.put, List.setIfInBounds_toArray, List.set_cons_zero, List.set_cons_succ]
  rfl
 refine pure_ (i := 11) (N := some 14) (v := ?_) (a' := ?_) (mk_ 12 6) rfl rfl (by kernel_rfl) (fun _ _ _ h => h) (Or.inl ⟨by rfl, ?_⟩) ?_ ?_
 rotate_left
 ·intro w'
  go_simp
  with_reducible rfl
 rotate_left
 ·simp only [Act.put, List.setIfInBounds_toArray, List.set_cons_zero, List.set_cons_succ]
  rfl
 refine pure_ (i := 12) (N := some 15) (v := ?_) (a' := ?_) (mk_ 13 5) rfl rfl (by kernel_rfl) (fun _ _ _ h => h) (Or.inl ⟨by rfl, ?_⟩) ?_ ?_
 rotate_left
 ·intro w'
  go_simp
  with_reducible rfl
 rotate_left
 ·simp only [Act.put, List.setIfInBounds_toArray, List.set_cons_zero, List.set_cons_succ]
  rfl
 refine pure_ (i := 13) (N := some 16) (v := ?_) (a' := ?_) (mk_ 14 4) rfl rfl (by kernel_rfl) (fun _ _ _ h => h) (Or.inl ⟨by rfl, ?_⟩) ?_ ?_
 rotate_left
 ·intro w'
  go_simp
  with_reducible rfl
 rotate_left
 ·simp only [Act.put, List.setIfInBounds_toArray, List.set_cons_zero, List.set_cons_succ]
  rfl
 refine pure_ (i := 14) (N := some 17) (v := ?_) (a' := ?_) (mk_ 15 3) rfl rfl (by kernel_rfl) (fun _ _ _ h => h) (Or.inl ⟨by rfl, ?_⟩) ?_ ?_
 rotate_left
 ·intro w'
  go_simp
  with_reducible rfl
 rotate_left
 ·simp only [Act.put, List.setIfInBounds_toArray, List.set_cons_zero, List.set_cons_succ]
  rfl
 refine last_ (i := 15) (N := none) (mk_ 16 2) rfl rfl (by kernel_rfl) (by decide) (fun K hK => ?_)
 have hd1 : w2d.cell? ⟨gb, 1, none⟩ = some (.slice A1 n1 c1) := (blk_cell HGd.out 1).trans rfl
 have hz1 : w2d.frozen? ⟨gb, 1, none⟩ = false := blk_frozen HGd.out 1
 refine skip_ (w1 := ?_) (by rfl) rfl ?_ ?_
 rotate_left
 ·go_simp
  rfl
 refine hK.out _ _ ?_
 clear hK K
 have HG3 := Aside0.mk (blk_put (w := w2d) HGd.out 1 (.slice A1 m1 c1) rfl)
 have HT3 := Aside0.mk (show (w2d.setCell ⟨gb, 1, none⟩ (.slice A1 m1 c1)).heap[gb + 1]? = _ from (Below.heap_setCell w2d ⟨gb, 1, none⟩ (.slice A1 m1 c1) (gb + 1) (by show gb + 1 ≠ gb; omega)).trans HTd.out)
 have HB3 := Aside0.mk (show Below W.heap.size W (w2d.setCell ⟨gb, 1, none⟩ (.slice A1 m1 c1)) from below_set HBd.out HBG.out)
 generalize w2d.setCell ⟨gb, 1, none⟩ (.slice A1 m1 c1) = w3 at HG3 HT3 HB3 ⊢
 replace HG3 : Aside0 (w3.heap[gb]? = some (.cells #[.int .i64 a0, .slice A1 m1 c1, .slice A2 n2 c2] 59 (0, 0))) := HG3
 refine pure_ (i := 16) (N := some 18) (v := ?_) (a' := ?_) (mk_ 17 1) rfl rfl (by kernel_rfl) (fun _ _ _ h => h) (Or.inl ⟨by rfl, ?_⟩) ?_ ?_
 rotate_left
 ·intro w'
  go_simp
  with_reducible rfl
 rotate_left
 ·simp only [Act.put, List.setIfInBounds_toArray, List.set_cons_zero, List.set_cons_succ]
  rfl
 refine last_ (i := 17) (N := none) (mk_ 18 0) rfl rfl (by kernel_rfl) (by decide) (fun K hK => ?_)
 have hd2 : w3.cell? ⟨gb, 2, none⟩ = some (.slice A2 n2 c2) := (blk_cell HG3.out 2).trans rfl
 have hz2 : w3.frozen? ⟨gb, 2, none⟩ = false := blk_frozen HG3.out 2
 refine skip_ (w1 := ?_) (by rfl) rfl ?_ ?_
 rotate_left
 ·go_simp
  rfl
 refine hK.out _ _ ?_
 clear hK K
 have HG4 := Aside0.mk (blk_put (w := w3) HG3.out 2 (.slice A2 m2 c2) rfl)
 have HT4 := Aside0.mk (show (w3.setCell ⟨gb, 2, none⟩ (.slice A2 m2 c2)).heap[gb + 1]? = _ from (Below.heap_setCell w3 ⟨gb, 2, none⟩ (.slice A2 m2 c2) (gb + 1) (by show gb + 1 ≠ gb; omega)).trans HT3.out)
 have HB4 := Aside0.mk (show Below W.heap.size W (w3.setCell ⟨gb, 2, none⟩ (.slice A2 m2 c2)) from below_set HB3.out HBG.out)
 generalize w3.setCell ⟨gb, 2, none⟩ (.slice A2 m2 c2) = w4 at HG4 HT4 HB4 ⊢
 replace HG4 : Aside0 (w4.heap[gb]? = some (.cells #[.int .i64 a0, .slice A1 m1 c1, .slice A2 m2 c2] 59 (0, 0))) := HG4
 refine done_ (by kernel_rfl) ?_
 clear hd1 hz1 hd2 hz2 hHeld
 have y0 : w4.cell? ⟨gb, 0, none⟩ = some (.int .i64 a0) := (blk_cell HG4.out 0).trans rfl
 have y1 : w4.cell? ⟨gb, 1, none⟩ = some (.slice A1 m1 c1) := (blk_cell HG4.out 1).trans rfl
 have y2 : w4.cell? ⟨gb, 2, none⟩ = some (.slice A2 m2 c2) := (blk_cell HG4.out 2).trans rfl
 have t0 : w4.cell? ⟨gb + 1, 0, none⟩ = some (.int .i64 0) := (blk_cell HT4.out 0).trans rfl
 have t1 : w4.cell? ⟨gb + 1, 1, none⟩ = some (.slice none 0 0) := (blk_cell HT4.out 1).trans rfl
 have t2 : w4.cell? ⟨gb + 1, 2, none⟩ = some (.slice none 0 0) := (blk_cell HT4.out 2).trans rfl
 have f0 := blk_frozen HT4.out 0
 have f1 := blk_frozen HT4.out 1
 have f2 := blk_frozen HT4.out 2
 go_wp2
 refine bodyPost_ret (results_cell_row rfl _ _ (gb + 1) 59 #[.int .i64 a0, .slice A1 m1 c1, .slice A2 m2 c2] (0, 0) _ rfl (by refine blk_put (cs := #[.int .i64 a0, .slice A1 m1 c1, .slice none 0 0]) ?_ 2 _ rfl; refine blk_put (cs := #[.int .i64 a0, .slice none 0 0, .slice none 0 0]) ?_ 1 _ rfl; refine blk_put (cs := #[.int .i64 0, .slice none 0 0, .slice none 0 0]) ?_ 0 _ rfl; exact HT4.out) Tryd.underlying59 rfl (by kernel_rfl)) rfl ?_
 exact ⟨rfl, below_set (below_set (below_set HB4.out (Nat.le_succ_of_le HBG.out)) (Nat.le_succ_of_le HBG.out)) (Nat.le_succ_of_le HBG.out)⟩
end Go.Proofs.YtgeldmhgbnamcaaDoor.G
end
section
namespace Go.Proofs.YtgeldmhgbnamcaaDoor.PureQ
open Go.RowKit Go.Proofs.YtgeldmhgbnamcaaDoor.Q Go.Proofs.YtgeldmhgbnamcaaDoorW.PrintWords Go.Proofs.YtgeldmhgbnamcaaDoorW.PrintLast Go.Proofs.YtgeldmhgbnamcaaDoorW.PrintMore
open Go.Proofs.YtgeldmhgbnamcaaDoor.Pure.FW
set_option linter.unusedVariables false
set_option linter.unusedSimpArgs false
def I64 (x : Int) : Prop := -9223372036854775808 ≤ x ∧ x ≤ 9223372036854775807
def PlOk (L : List S42) : Prop := L.length ≤ 12 ∧ (∀ p ∈ L, p.f0.size ≤ 20) ∧ ∀ p ∈ L, -9223372036854775808 ≤ p.f1 ∧ p.f1 ≤ 9223372036854775807
theorem plOk_one {s : ByteArray} {n : Int} (hs : s.size ≤ 20) (hn : I64 n) : PlOk [⟨s, n⟩] :=
 ⟨show 1 ≤ 12 by decide, fun p hp => by rw [List.mem_singleton.1 hp]; exact hs, fun p hp => by rw [List.mem_singleton.1 hp]; exact hn⟩
theorem plOk_two {s t : ByteArray} {n m : Int} (hs : s.size ≤ 20) (ht : t.size ≤ 20) (hn : I64 n) (hm : I64 m) : PlOk [⟨s, n⟩, ⟨t, m⟩] :=
 ⟨show 2 ≤ 12 by decide, fun p hp => by
  rcases List.mem_cons.1 hp with rfl | hp
  ·exact hs
  ·rw [List.mem_singleton.1 hp]; exact ht, fun p hp => by
  rcases List.mem_cons.1 hp with rfl | hp
  ·exact hn
  ·rw [List.mem_singleton.1 hp]; exact hm⟩
theorem badE_ok {a0 : Int} : ∀ {i : Nat} {r : List S75} {L : List S42}, badE a0 i r = some L → (∀ e ∈ r, I64 e.f0 ∧ I64 e.f1) → i + r.length ≤ 1000 → PlOk L
 | _, [], _, h, _, _ => by cases h
 | i, e :: r, L, h, hb, hl => by
  rw [List.length_cons] at hl
  have h0 := hb e (by simp)
  rw [badE] at h
  split at h
  ·obtain rfl := Option.some.inj h
   exact plOk_two (by decide) (by decide) ⟨by omega, by omega⟩ h0.1
  ·split at h
   ·obtain rfl := Option.some.inj h
    exact plOk_two (by decide) (by decide) ⟨by omega, by omega⟩ h0.2
   ·exact badE_ok h (fun x hx => hb x (by simp [hx])) (by omega)
theorem badI_ok {a0 : Int} : ∀ {pre r : List Int} {x : List S42 × Int}, badI a0 pre r = some x → pre.length + r.length ≤ 1000 → PlOk x.1
 | _, [], _, h, _ => by cases h
 | pre, p :: r, x, h, hl => by
  rw [List.length_cons] at hl
  rw [badI] at h
  split at h
  ·obtain rfl := Option.some.inj h
   exact plOk_one (by decide) ⟨by omega, by omega⟩
  ·split at h
   ·obtain rfl := Option.some.inj h
    exact plOk_one (by decide) ⟨by omega, by omega⟩
   ·exact badI_ok h (by rw [List.length_append, List.length_singleton]; omega)
theorem cycD_lt {M : Mat} {E : List S75} : ∀ {d p r : Nat}, cycD M E d p = some r → r < p + d
 | 0, p, r, h => by cases h
 | d + 1, p, r, h => by
  rw [cycD] at h
  split at h
  ·obtain rfl := Option.some.inj h; omega
  ·have := cycD_lt h; omega
theorem plOk_nil : PlOk [] := by
 refine ⟨by decide, ?_, ?_⟩
 ·intro p hp; cases hp
 ·intro p hp; cases hp
theorem chk_ok {a0 : Int} {E : List S75} {I : List Int} (hb : ∀ e ∈ E, I64 e.f0 ∧ I64 e.f1) (hE : E.length ≤ 1000) (hI : I.length ≤ 1000) : PlOk (chk a0 E I).1 ∧ 0 ≤ (chk a0 E I).2 ∧ (chk a0 E I).2 < 15 := by
 unfold chk
 split
 ·exact ⟨plOk_nil, by decide, by decide⟩
 ·split
  ·exact ⟨plOk_nil, by decide, by decide⟩
  ·unfold chk0
   cases he : badE a0 0 E with
   | some L => exact ⟨badE_ok he hb (by omega), show (0 : Int) ≤ 2 by decide, show (2 : Int) < 15 by decide⟩
   | none =>
    show PlOk (chk1 a0 E I).1 ∧ 0 ≤ (chk1 a0 E I).2 ∧ (chk1 a0 E I).2 < 15
    unfold chk1
    split
    ·exact ⟨plOk_nil, by decide, by decide⟩
    ·unfold chk2
     cases hi : badI a0 [] I with
     | some x =>
      have hc := badI_code hi
      exact ⟨badI_ok hi (by simp; omega), by show 0 ≤ x.2; omega, by show x.2 < 15; omega⟩
     | none =>
      show PlOk (chk3 a0 E).1 ∧ 0 ≤ (chk3 a0 E).2 ∧ (chk3 a0 E).2 < 15
      unfold chk3
      cases hc : cycD (wE a0 E) E a0.toNat 0 with
      | some q => exact ⟨plOk_one (by decide) ⟨by omega, by have := cycD_lt hc; omega⟩, show (0 : Int) ≤ 3 by decide, show (3 : Int) < 15 by decide⟩
      | none => exact ⟨plOk_nil, by decide, by decide⟩
end Go.Proofs.YtgeldmhgbnamcaaDoor.PureQ
end
section
namespace Go.Proofs.YtgeldmhgbnamcaaDoor.G
open Go.RowKit Go.Proofs.YtgeldmhgbnamcaaDoorW.PrintWords Go.Proofs.YtgeldmhgbnamcaaDoorW.PrintLast Go.Proofs.YtgeldmhgbnamcaaDoorW.PrintMore
open Go.Proofs.YtgeldmhgbnamcaaDoor.P (ErrIs psOf TypeVar Kind_calls Text_calls pathT wordOf)
open Go.Proofs.YtgeldmhgbnamcaaDoor.Q (S42 S75 S127 k127 k127_mkM at_L8 rd_L8)
open Go.Proofs.YtgeldmhgbnamcaaDoor.PureQ (c127 chk pth poS)
open Go.Proofs.YtgeldmhgbnamcaaDoor.Pure.FW (In N)
set_option linter.unusedVariables false
set_option linter.unusedSimpArgs false
def gE : List S75 := [⟨0, 1, 0⟩, ⟨1, 0, 1⟩]
def gH : List S75 := [⟨0, 1, 0⟩, ⟨1, 0, 0⟩]
theorem gE_pth : pth 2 gE [0] = [[0, 0], [1, 0]] := by kernel_rfl
theorem gE_chk : chk 2 gE [0] = ([], 0) := by kernel_rfl
theorem gH_chk : chk 2 gH [0] = ([⟨poS, 0⟩], 3) := by kernel_rfl
theorem g0_chk : chk 0 [] [] = ([], 2) := by kernel_rfl
theorem gE_in : ∀ e ∈ gE, In e.f2 := by
 intro e he
 rcases List.mem_cons.1 he with rfl | he
 ·exact ⟨by decide, by decide⟩
 ·rw [List.mem_singleton.1 he]; exact ⟨by decide, by decide⟩
theorem gH_in : ∀ e ∈ gH, In e.f2 := by
 intro e he
 rcases List.mem_cons.1 he with rfl | he
 ·exact ⟨by decide, by decide⟩
 ·rw [List.mem_singleton.1 he]; exact ⟨by decide, by decide⟩
theorem tp1 (Eg : List S127) (I : List Int) (P : List (List Int)) (hEg : Eg = [(⟨0, 1, 0⟩ : S127), (⟨1, 0, 1⟩ : S127)]) (hI : I = [0]) (hP : P = [[0, 0], [1, 0]]) (A1 : Option Addr) (c1 : Nat) (A2 : Option Addr) (c2 : Nat) (w : World) (q1 : Kd.C k127 w A1 Eg.length Eg) (q2 : Eg.length ≤ c1) (q3 : Kd.C (Kd.int .i64) w A2 I.length I) (q4 : I.length ≤ c2) :
  Calls Tryd.prog 39 #[.agg #[.int .i64 2, .slice A1 Eg.length c1, .slice A2 I.length c2]] w fun e w' => ∃ A c, e = .returned (.slice A P.length c) ∧ Kd.C (Kd.slice 22 (Kd.int .u64)) w' A P.length P ∧ Below w.heap.size w w' := by
 subst hEg hI hP
 have h := Paths_C 2 A1 c1 gE A2 c2 [0] w q1 q2 q3 q4 (by decide) gE_in
 rw [gE_pth] at h
 exact h.mono fun e w' ⟨A, c, h1, h2, _, h4⟩ => ⟨A, c, h1, h2, h4⟩
theorem ck1 (Eg : List S127) (I : List Int) (hEg : Eg = [(⟨0, 1, 0⟩ : S127), (⟨1, 0, 1⟩ : S127)]) (hI : I = [0]) (A1 : Option Addr) (c1 : Nat) (A2 : Option Addr) (c2 : Nat) (w : World) (q1 : Kd.C k127 w A1 Eg.length Eg) (q2 : Eg.length ≤ c1) (q3 : Kd.C (Kd.int .i64) w A2 I.length I) (q4 : I.length ≤ c2) :
  Calls Tryd.prog 34 #[.agg #[.int .i64 2, .slice A1 Eg.length c1, .slice A2 I.length c2]] w fun e w' => ∃ v, e = .returned v ∧ Below w.heap.size w w' ∧ CheckV w' v ([], 0) := by
 subst hEg hI
 have h := Check_C 2 A1 c1 gE A2 c2 [0] w q1 q2 q3 q4 (by decide) gE_in
 rw [gE_chk] at h
 exact h
theorem ck2 (Eg : List S127) (I : List Int) (hEg : Eg = [(⟨0, 1, 0⟩ : S127), (⟨1, 0, 0⟩ : S127)]) (hI : I = [0]) (A1 : Option Addr) (c1 : Nat) (A2 : Option Addr) (c2 : Nat) (w : World) (q1 : Kd.C k127 w A1 Eg.length Eg) (q2 : Eg.length ≤ c1) (q3 : Kd.C (Kd.int .i64) w A2 I.length I) (q4 : I.length ≤ c2) :
  Calls Tryd.prog 34 #[.agg #[.int .i64 2, .slice A1 Eg.length c1, .slice A2 I.length c2]] w fun e w' => ∃ v, e = .returned v ∧ Below w.heap.size w w' ∧ CheckV w' v ([⟨poS, 0⟩], 3) := by
 subst hEg hI
 have h := Check_C 2 A1 c1 gH A2 c2 [0] w q1 q2 q3 q4 (by decide) gH_in
 rw [gH_chk] at h
 exact h
theorem ck0 (w : World) : Calls Tryd.prog 34 #[.agg #[.int .i64 0, .slice none 0 0, .slice none 0 0]] w fun e w' => ∃ v, e = .returned v ∧ Below w.heap.size w w' ∧ CheckV w' v ([], 2) := by
 have h := Check_C 0 none 0 [] none 0 [] w (Kd.C_nil _ _) (Nat.le_refl _) (Kd.C_nil _ _) (Nat.le_refl _) (by decide) (by intro e he; cases he)
 rw [g0_chk] at h
 exact h
set_option maxHeartbeats 8000000 in
set_option maxRecDepth 100000 in
theorem told5_C (w : World) (hg : TypeVar w) : Calls Tryd.prog 37 #[] w fun e w' => e = .returned (.bool true) ∧ Below w.heap.size w w' := by
 have HB := Aside0.mk (Below.refl w.heap.size w)
 have HG := Aside0.mk hg
 obtain ⟨Eg, hEg⟩ : ∃ E : List S127, E = [(⟨0, 1, 0⟩ : S127), (⟨1, 0, 1⟩ : S127)] := ⟨_, rfl⟩
 obtain ⟨Eh, hEh⟩ : ∃ E : List S127, E = [(⟨0, 1, 0⟩ : S127), (⟨1, 0, 0⟩ : S127)] := ⟨_, rfl⟩
 obtain ⟨I, hI⟩ : ∃ I : List Int, I = [0] := ⟨_, rfl⟩
 obtain ⟨P, hP⟩ : ∃ P : List (List Int), P = [[0, 0], [1, 0]] := ⟨_, rfl⟩
 have TP1 := Aside0.mk (fun A1 c1 A2 c2 w' => tp1 Eg I P hEg hI hP A1 c1 A2 c2 w')
 have CK1 := Aside0.mk (fun A1 c1 A2 c2 w' => ck1 Eg I hEg hI A1 c1 A2 c2 w')
 have CK2 := Aside0.mk (fun A1 c1 A2 c2 w' => ck2 Eh I hEh hI A1 c1 A2 c2 w')
 have CK0 := Aside0.mk (fun w' => ck0 w')
 have hpl : ((P.length : Int) == 2) = true := by rw [hP]; rfl
 have hp0 : (0 : Int) < (P.length : Int) := by rw [hP]; decide
 have hp1 : (1 : Int) < (P.length : Int) := by rw [hP]; decide
 have HEg := Aside0.mk hEg
 have HEh := Aside0.mk hEh
 have HI := Aside0.mk hI
 have HP := Aside0.mk hP
 clear hg hEg hEh hI hP
 go_enter Tryd.func37, Tryd.ntmps37
 go_wp2_with (first
  | ((with_reducible refine gate_dst (N := 6) rfl ?_); refine Kd.R_lit k127 _ 127 ?hg (N := 6) ?hd (xs := ([(⟨0, 1, 0⟩ : S127), (⟨1, 0, 1⟩ : S127)] : List S127)) (inner := [.int .i64 0, .int .i64 1, .int .u64 0, .int .i64 1, .int .i64 0, .int .u64 1]) (ok := fun _ => True) (okp := fun _ => True) ?hr ?hp (fun _ hk => hk) trivial (Below.refl _ _) (Nat.le_refl _) (by simp) ?_; (case hd => rfl); (case hg => rfl); (case hr => first | (go_simp; done) | (go_simp; rfl)); (case hp => exact (Reps.c3 (show Kd.M k127 _ _ _ (⟨0, 1, 0⟩ : S127) [.int .i64 0, .int .i64 1, .int .u64 0] from (k127_mkM _ _ _ (⟨0, 1, 0⟩ : S127) )) (Reps.c3 (show Kd.M k127 _ _ _ (⟨1, 0, 1⟩ : S127) [.int .i64 1, .int .i64 0, .int .u64 1] from (k127_mkM _ _ _ (⟨1, 0, 1⟩ : S127) )) (Reps.none _ _)))); intro v6 w6 ho hb hg_ hn_; clear hg_ hn_; rw [← HEg.out] at ho; obtain ⟨A1, c1, rfl⟩ := Kd.R_slice ho; have HO1 := Aside0.mk ho; have n1_ := Aside0.mk (below_step (by repeat (first | (with_reducible first | exact HB.out | apply below_alloc | apply pw_below_drewN | apply below_drew1) | exact HB.out)) hb); clear HB; have HB := n1_; clear n1_; clear ho hb)
  | ((with_reducible refine gate_dst (N := 7) rfl ?_); refine Kd.R_lit (Kd.int .i64) _ 3 ?hg (N := 7) ?hd (xs := ([0] : List Int)) (inner := [.int .i64 0]) (ok := fun _ => True) (okp := fun _ => True) ?hr ?hp (fun _ hk => hk) trivial (Below.refl _ _) (Nat.le_refl _) (by simp) ?_; (case hd => rfl); (case hg => rfl); (case hr => first | (go_simp; done) | (go_simp; rfl)); (case hp => exact (Reps.one (show Kd.M (Kd.int .i64) _ _ _ 0 [.int .i64 0] from rfl) (Reps.none _ _))); intro v7 w7 ho hb hg_ hn_; clear hg_ hn_; rw [← HI.out] at ho; obtain ⟨A2, c2, rfl⟩ := Kd.R_slice ho; have HO2 := Aside0.mk (Kd.R_alloc ho (.cells #[.int .i64 2, .slice A1 Eg.length c1, .slice A2 I.length c2] 64)); have HO1b := Aside0.mk (Kd.R_alloc (Kd.R_below HO1.out hb) (.cells #[.int .i64 2, .slice A1 Eg.length c1, .slice A2 I.length c2] 64)); have HGB := Aside0.mk (blk_new w7 (.cells #[.int .i64 2, .slice A1 Eg.length c1, .slice A2 I.length c2] 64)); have n1_ := Aside0.mk (below_step (by repeat (first | (with_reducible first | exact HB.out | apply below_alloc | apply pw_below_drewN | apply below_drew1) | exact HB.out)) hb); clear HB; have HB := n1_; clear n1_; clear ho hb)
  | (go_at_call 39; (with_reducible refine (TP1.out A1 c1 A2 c2 _ ?_ ?_ ?_ ?_).mono ?_); (exact (Kd.R_reads' HO1b.out).2.2); (exact (Kd.R_reads' HO1b.out).2.1); (exact (Kd.R_reads' HO2.out).2.2); (exact (Kd.R_reads' HO2.out).2.1); rintro e w10 ⟨A9, c9, rfl, hs, hb⟩; have HS := Aside0.mk hs; have HO1c := Aside0.mk (Kd.R_below HO1b.out hb); have HO2c := Aside0.mk (Kd.R_below HO2.out hb); have HGB2 := Aside0.mk (blk_below HGB.out hb); have n1_ := Aside0.mk (below_step (by repeat (first | (with_reducible first | exact HB.out | apply below_alloc | apply pw_below_drewN | apply below_drew1) | exact HB.out)) hb); clear HB; have HB := n1_; clear n1_; clear hs hb)
  | ((with_reducible refine gate_dst (N := 13) rfl ?_); refine Kd.R_lit k127 _ 127 ?hg (N := 13) ?hd (xs := ([(⟨0, 1, 0⟩ : S127), (⟨1, 0, 0⟩ : S127)] : List S127)) (inner := [.int .i64 0, .int .i64 1, .int .u64 0, .int .i64 1, .int .i64 0, .int .u64 0]) (ok := fun _ => True) (okp := fun _ => True) ?hr ?hp (fun _ hk => hk) trivial (Below.refl _ _) (Nat.le_refl _) (by simp) ?_; (case hd => rfl); (case hg => rfl); (case hr => first | (go_simp; done) | (go_simp; rfl)); (case hp => exact (Reps.c3 (show Kd.M k127 _ _ _ (⟨0, 1, 0⟩ : S127) [.int .i64 0, .int .i64 1, .int .u64 0] from (k127_mkM _ _ _ (⟨0, 1, 0⟩ : S127) )) (Reps.c3 (show Kd.M k127 _ _ _ (⟨1, 0, 0⟩ : S127) [.int .i64 1, .int .i64 0, .int .u64 0] from (k127_mkM _ _ _ (⟨1, 0, 0⟩ : S127) )) (Reps.none _ _)))); intro v13 w13 ho hb hg_ hn_; clear hg_ hn_; rw [← HEh.out] at ho; obtain ⟨A3, c3, rfl⟩ := Kd.R_slice ho; have HO3 := Aside0.mk ho; have HS2 := Aside0.mk (Kd.C_below HS.out hb); have HO1d := Aside0.mk (Kd.R_below HO1c.out hb); have HO2d := Aside0.mk (Kd.R_below HO2c.out hb); have HGB3 := Aside0.mk (blk_below HGB2.out hb); have n1_ := Aside0.mk (below_step (by repeat (first | (with_reducible first | exact HB.out | apply below_alloc | apply pw_below_drewN | apply below_drew1) | exact HB.out)) hb); clear HB; have HB := n1_; clear n1_; clear ho hb)
  | ((with_reducible refine gate_dst (N := 14) rfl ?_); refine Kd.R_lit (Kd.int .i64) _ 3 ?hg (N := 14) ?hd (xs := ([0] : List Int)) (inner := [.int .i64 0]) (ok := fun _ => True) (okp := fun _ => True) ?hr ?hp (fun _ hk => hk) trivial (Below.refl _ _) (Nat.le_refl _) (by simp) ?_; (case hd => rfl); (case hg => rfl); (case hr => first | (go_simp; done) | (go_simp; rfl)); (case hp => exact (Reps.one (show Kd.M (Kd.int .i64) _ _ _ 0 [.int .i64 0] from rfl) (Reps.none _ _))); intro v14 w14 ho hb hg_ hn_; clear hg_ hn_; rw [← HI.out] at ho; obtain ⟨A4, c4, rfl⟩ := Kd.R_slice ho; have HO4 := Aside0.mk (Kd.R_alloc ho (.cells #[.int .i64 2, .slice A3 Eh.length c3, .slice A4 I.length c4] 64)); have HO3b := Aside0.mk (Kd.R_alloc (Kd.R_below HO3.out hb) (.cells #[.int .i64 2, .slice A3 Eh.length c3, .slice A4 I.length c4] 64)); have HS3 := Aside0.mk (Kd.C_alloc (Kd.C_below HS2.out hb) (.cells #[.int .i64 2, .slice A3 Eh.length c3, .slice A4 I.length c4] 64)); have HO1e := Aside0.mk (Kd.R_alloc (Kd.R_below HO1d.out hb) (.cells #[.int .i64 2, .slice A3 Eh.length c3, .slice A4 I.length c4] 64)); have HO2e := Aside0.mk (Kd.R_alloc (Kd.R_below HO2d.out hb) (.cells #[.int .i64 2, .slice A3 Eh.length c3, .slice A4 I.length c4] 64)); have HGB4 := Aside0.mk (blk_alloc (blk_below HGB3.out hb) (.cells #[.int .i64 2, .slice A3 Eh.length c3, .slice A4 I.length c4] 64)); have HHB := Aside0.mk (blk_new w14 (.cells #[.int .i64 2, .slice A3 Eh.length c3, .slice A4 I.length c4] 64)); have n1_ := Aside0.mk (below_step (by repeat (first | (with_reducible first | exact HB.out | apply below_alloc | apply pw_below_drewN | apply below_drew1) | exact HB.out)) hb); clear HB; have HB := n1_; clear n1_; have qa0 := blk_cell (HGB4.out) 0; have qa1 := blk_cell (HGB4.out) 1; have qa2 := blk_cell (HGB4.out) 2; simp only [List.getElem?_toArray, List.getElem?_cons_zero, List.getElem?_cons_succ] at qa0 qa1 qa2; clear ho hb)
  | (go_at_call 34; (with_reducible refine (CK1.out A1 c1 A2 c2 _ ?_ ?_ ?_ ?_).mono ?_); (exact (Kd.R_reads' HO1e.out).2.2); (exact (Kd.R_reads' HO1e.out).2.1); (exact (Kd.R_reads' HO2e.out).2.2); (exact (Kd.R_reads' HO2e.out).2.1); rintro e w17 ⟨v17, rfl, hb, hV⟩; obtain rfl : v17 = .nilIface := hV.1 rfl; clear hV; have HS4 := Aside0.mk (Kd.C_below HS3.out hb); have HO3c := Aside0.mk (Kd.R_below HO3b.out hb); have HO4c := Aside0.mk (Kd.R_below HO4.out hb); have HHB2 := Aside0.mk (blk_below HHB.out hb); have n1_ := Aside0.mk (below_step (by repeat (first | (with_reducible first | exact HB.out | apply below_alloc | apply pw_below_drewN | apply below_drew1) | exact HB.out)) hb); clear HB; have HB := n1_; clear n1_; have qb0 := blk_cell (HHB2.out) 0; have qb1 := blk_cell (HHB2.out) 1; have qb2 := blk_cell (HHB2.out) 2; simp only [List.getElem?_toArray, List.getElem?_cons_zero, List.getElem?_cons_succ] at qb0 qb1 qb2; obtain ⟨ad9, R0, rc0, er, hr0, hl0, hi0⟩ := at_L8 HS4.out 0 (by decide) (by rw [HP.out]; decide); subst er; obtain ⟨ad9', R1, rc1, er1, hr1, hl1, hi1⟩ := at_L8 HS4.out 1 (by decide) (by rw [HP.out]; decide); cases er1; obtain ⟨ad0, e0, hx0⟩ := Kd.at_int hi0 1 (by decide) (by rw [HP.out]; decide); obtain ⟨ad1, e1, hx1⟩ := Kd.at_int hi1 0 (by decide) (by rw [HP.out]; decide); subst e0 e1; have HX := Aside0.mk (show _ ∧ _ ∧ _ ∧ _ from ⟨hr0, hr1, hx0, hx1⟩); clear hr0 hr1 hx0 hx1 hl0 hl1 hi0 hi1; obtain ⟨hr0, hr1, hx0, hx1⟩ := HX.out; rw [HP.out] at hr0 hr1 hx0 hx1; simp [rd_L8, rd, Addr.add] at hr0 hr1 hx0 hx1; clear hb)
  | (go_at_call 34; (with_reducible refine (CK2.out A3 c3 A4 c4 _ ?_ ?_ ?_ ?_).mono ?_); (exact (Kd.R_reads' HO3c.out).2.2); (exact (Kd.R_reads' HO3c.out).2.1); (exact (Kd.R_reads' HO4c.out).2.2); (exact (Kd.R_reads' HO4c.out).2.1); rintro e w42 ⟨v42, rfl, hb, hV⟩; have hE : ErrIs w42 [(poS, (0 : Int))] v42 (.iface 33 (.int .i64 3)) := hV.2 (by decide); clear hV; have HE := Aside0.mk hE; have n1_ := Aside0.mk (below_step (by repeat (first | (with_reducible first | exact HB.out | apply below_alloc | apply pw_below_drewN | apply below_drew1) | exact HB.out)) hb); clear HB; have HB := n1_; clear n1_; clear hE hb)
  | (go_at_call 22; refine (Text_calls [(poS, 0)] v42 3 _ HE.out (HG.out.below HB.out) (by decide) (by intro p hp; rw [List.mem_singleton.1 hp]; decide) (by intro p hp; rw [List.mem_singleton.1 hp]; decide) (by decide) (by decide)).mono ?_; rintro e w43 ⟨he, hb⟩; subst he; rw [show (pathT ([(poS, (0 : Int))].map fun p => ⟨p.1, p.2⟩) [(poS, (0 : Int))].length ++ wordOf 3) = ⟨#[112, 111, 114, 116, 32, 48, 58, 32, 99, 121, 99, 108, 101]⟩ from by decide]; have n1_ := Aside0.mk (below_step (by repeat (first | (with_reducible first | exact HB.out | apply below_alloc | apply pw_below_drewN | apply below_drew1) | exact HB.out)) hb); clear HB; have HB := n1_; clear n1_; clear hb)
  | (go_at_call 34; refine (CK0.out _).mono ?_; rintro e w48 ⟨v48, rfl, hb, hV⟩; obtain rfl : v48 = .iface 33 (.int .i64 2) := hV.2 (by decide); clear hV; have n1_ := Aside0.mk (below_step (by repeat (first | (with_reducible first | exact HB.out | apply below_alloc | apply pw_below_drewN | apply below_drew1) | exact HB.out)) hb); clear HB; have HB := n1_; clear n1_; clear hb)
  | (go_at_call 20; refine (Kind_calls [] _ 2 _ rfl (HG.out.below HB.out)).mono ?_; rintro e w49 ⟨he, hb⟩; subst he; have n1_ := Aside0.mk (below_step (by repeat (first | (with_reducible first | exact HB.out | apply below_alloc | apply pw_below_drewN | apply below_drew1) | exact HB.out)) hb); clear HB; have HB := n1_; clear n1_; clear hb))
 go_ret
 exact ⟨rfl, HB.out⟩
open Go.Proofs.YtgeldmhgbnamcaaDoor.P (ErrIs psOf At_calls TypeVar Tab10 Kind_calls Kind_nil TextG_calls psOf_toP psOf_len pathG toP wordOf text_ev e_assert33)
open Go.Proofs.YtgeldmhgbnamcaaDoor.Q (S42 k42 S75 k75 S127 k127 marchlandlaw05_To.f marchlandlaw05_To.calls marchlandref05_Check.f marchlandref05_Check.calls marchlandref05_Paths.f marchlandref05_Paths.calls marchlandlaw05_Rows.f marchlandlaw05_Rows.calls marchlandref02_Text.f marchlandref02_Text.calls)
open Go.Proofs.YtgeldmhgbnamcaaDoor.PureQ (c127 chk pth to5_ev rchk_ev rpth_ev pth_rows chk_ok I64 PlOk)
open Go.Proofs.YtgeldmhgbnamcaaDoor.Pure.FW (In)
set_option maxRecDepth 100000
theorem psOf_ok {L : List S42} (h : (∀ p ∈ L, p.f0.size ≤ 20) ∧ ∀ p ∈ L, -9223372036854775808 ≤ p.f1 ∧ p.f1 ≤ 9223372036854775807) : (∀ p ∈ psOf L, -9223372036854775808 ≤ p.2 ∧ p.2 ≤ 9223372036854775807) ∧ ∀ p ∈ psOf L, p.1.size ≤ 1000 := by
 constructor
 ·intro p hp
  obtain ⟨q, hq, rfl⟩ := List.mem_map.1 hp
  exact h.2 q hq
 ·intro p hp
  obtain ⟨q, hq, rfl⟩ := List.mem_map.1 hp
  exact Nat.le_trans (h.1 q hq) (by decide)
theorem law_next {w w7 w1 w' : World} {n : Nat} {u0 u1 u2 : Value} (h : w1.cell? ⟨n, 0, none⟩ = some u0 ∧ w1.cell? ⟨n, 1, none⟩ = some u1 ∧ w1.cell? ⟨n, 2, none⟩ = some u2 ∧ n < w1.heap.size ∧ Below w.heap.size w w1 ∧ Below w7.heap.size w7 w1) (hb : Below w1.heap.size w1 w') :
  w'.cell? ⟨n, 0, none⟩ = some u0 ∧ w'.cell? ⟨n, 1, none⟩ = some u1 ∧ w'.cell? ⟨n, 2, none⟩ = some u2 ∧ n < w'.heap.size ∧ Below w.heap.size w w' ∧ Below w7.heap.size w7 w' :=
 ⟨(hb.cell (p := ⟨n, 0, none⟩) h.2.2.2.1).trans h.1, (hb.cell (p := ⟨n, 1, none⟩) h.2.2.2.1).trans h.2.1, (hb.cell (p := ⟨n, 2, none⟩) h.2.2.2.1).trans h.2.2.1, Nat.lt_of_lt_of_le h.2.2.2.1 hb.size, below_step h.2.2.2.2.1 hb, below_step h.2.2.2.2.2 hb⟩
set_option maxHeartbeats 16000000 in
theorem GraphChecks_calls (a0 : Int) (A1 : Option Addr) (c1 : Nat) (l1 : List S75) (A2 : Option Addr) (c2 : Nat) (l2 : List Int) (W : World) (hC1 : Kd.C k75 W A1 l1.length l1) (hc1 : l1.length ≤ c1) (hC2 : Kd.C (Kd.int .i64) W A2 l2.length l2) (hc2 : l2.length ≤ c2) (hb : ∀ e ∈ l1, I64 e.f0 ∧ I64 e.f1 ∧ In e.f2) (hg : TypeVar W) (ht : Tab10 W) :
  Calls Tryd.prog 8 #[.agg #[.int .i64 a0, .slice A1 l1.length c1, .slice A2 l2.length c2]] W fun e w' => e = .returned (.bool true) ∧ Below W.heap.size W w' := by
 have HV := Aside0.mk (show TypeVar W ∧ Tab10 W from ⟨hg, ht⟩)
 have HC := Aside0.mk (show Kd.C k75 W A1 l1.length l1 ∧ Kd.C (Kd.int .i64) W A2 l2.length l2 from ⟨hC1, hC2⟩)
 have HF := Aside0.mk hb
 obtain ⟨n1, hn1⟩ : ∃ n, min l1.length 300 = n := ⟨_, rfl⟩
 obtain ⟨n2, hn2⟩ : ∃ n, min l2.length 20 = n := ⟨_, rfl⟩
 have FW := Aside0.mk (fun w => few_C a0 A1 l1.length c1 A2 l2.length c2 w hc1 hc2)
 rw [hn1, hn2] at FW
 have HN := Aside0.mk (show (n1 ≤ l1.length ∧ n1 ≤ 300 ∧ n1 ≤ c1) ∧ (n2 ≤ l2.length ∧ n2 ≤ 20 ∧ n2 ≤ c2) from ⟨⟨by omega, by omega, by omega⟩, by omega, by omega, by omega⟩)
 clear hC1 hc1 hC2 hc2 hb hg ht hn1 hn2
 have HCS := Aside0.mk (show (24 < a0 ∧ a0 ≤ 64 ∧ 60 < n1) ∨ (¬ 24 < a0) ∨ (24 < a0 ∧ ¬ a0 ≤ 64) ∨ (24 < a0 ∧ a0 ≤ 64 ∧ ¬ 60 < n1) from by omega)
 go_enter Tryd.func8, Tryd.ntmps8
 have HG0 := Aside0.mk (blk_new W (.cells #[.int .i64 a0, .slice A1 l1.length c1, .slice A2 l2.length c2] 59))
 have HB0 := Aside0.mk (below_alloc (Below.refl _ W) (.cells #[.int .i64 a0, .slice A1 l1.length c1, .slice A2 l2.length c2] 59))
 go_upto_region 2 with (first | (go_at_call 33; ((with_reducible refine (FW.out _).mono ?_); rintro e w1 ⟨rfl, hb⟩; have HG1 := Aside0.mk (blk_below HG0.out hb); have HB1 := Aside0.mk (below_step HB0.out hb); have hz0 : w1.cell? ⟨W.heap.size, 0, none⟩ = some (.int .i64 a0) := (blk_cell HG1.out 0).trans rfl; have hz1 : w1.cell? ⟨W.heap.size, 1, none⟩ = some (.slice A1 l1.length c1) := (blk_cell HG1.out 1).trans rfl; have hz2 : w1.cell? ⟨W.heap.size, 2, none⟩ = some (.slice A2 l2.length c2) := (blk_cell HG1.out 2).trans rfl; have hf0 := blk_frozen HG1.out 0; have hf1 := blk_frozen HG1.out 1; have hf2 := blk_frozen HG1.out 2; clear hb)))
 have HG2 := Aside0.mk (blk_put (blk_put (blk_put HG1.out 0 (.int .i64 a0) rfl) 1 (.slice A1 n1 c1) rfl) 2 (.slice A2 n2 c2) rfl)
 have HB2 := Aside0.mk (show Below W.heap.size W (((w1.setCell ⟨W.heap.size, 0, none⟩ (.int .i64 a0)).setCell ⟨W.heap.size, 1, none⟩ (.slice A1 n1 c1)).setCell ⟨W.heap.size, 2, none⟩ (.slice A2 n2 c2)) from below_set (below_set (below_set HB1.out (Nat.le_refl _)) (Nat.le_refl _)) (Nat.le_refl _))
 generalize ((w1.setCell ⟨W.heap.size, 0, none⟩ (.int .i64 a0)).setCell ⟨W.heap.size, 1, none⟩ (.slice A1 n1 c1)).setCell ⟨W.heap.size, 2, none⟩ (.slice A2 n2 c2) = w2 at HG2 HB2 ⊢
 replace HG2 : Aside0 (w2.heap[W.heap.size]? = some (.cells #[.int .i64 a0, .slice A1 n1 c1, .slice A2 n2 c2] 59 (0, 0))) := HG2
 clear hz0 hz1 hz2 hf0 hf1 hf2
 have hz0 : w2.cell? ⟨W.heap.size, 0, none⟩ = some (.int .i64 a0) := (blk_cell HG2.out 0).trans rfl
 have hz1 : w2.cell? ⟨W.heap.size, 1, none⟩ = some (.slice A1 n1 c1) := (blk_cell HG2.out 1).trans rfl
 have hz2 : w2.cell? ⟨W.heap.size, 2, none⟩ = some (.slice A2 n2 c2) := (blk_cell HG2.out 2).trans rfl
 have hf1 : w2.frozen? ⟨W.heap.size, 1, none⟩ = false := blk_frozen HG2.out 1
 obtain ⟨I, hI⟩ : ∃ I, l2.take n2 = I := ⟨_, rfl⟩
 have iL : I.length = n2 := by have := HN.out; rw [← hI, List.length_take]; omega
 have HI := Aside0.mk (show Kd.C (Kd.int .i64) W A2 I.length I ∧ I.length ≤ c2 ∧ I.length ≤ 20 from ⟨by rw [iL, ← hI]; exact C_take HC.out.2 n2 HN.out.2.1, by have := HN.out; omega, by have := HN.out; omega⟩)
 clear hI
 have hE60 : ∀ m, m ≤ n1 → Aside0 (∃ E : List S75, E.length = m ∧ Kd.C k75 W A1 E.length E ∧ E.length ≤ c1 ∧ E.length ≤ 300 ∧ ∀ e ∈ E, I64 e.f0 ∧ I64 e.f1 ∧ In e.f2) := fun m hm => ⟨by
  have hN := HN.out
  have eL : (l1.take m).length = m := by rw [List.length_take]; omega
  exact ⟨l1.take m, eL, by rw [eL]; exact C_take HC.out.1 m (by omega), by omega, by omega, fun e he => HF.out e (List.mem_of_mem_take he)⟩⟩
 rcases HCS.out with ⟨g1, g2, g3⟩ | g1 | ⟨g1, g2⟩ | ⟨g1, g2, g3⟩
 focus
  have d1 := decide_eq_true g1
  have d2 := decide_eq_true g2
  have g4 : (60 : Int) < (n1 : Int) := by omega
  have d3 := decide_eq_true g4
  have g5 : 60 ≤ c1 := by have := HN.out; omega
  have g6 : (60 : Int) ≤ (c1 : Int) := by omega
  obtain ⟨E, eL, HE0⟩ := (hE60 60 (by omega)).out
  have HE := Aside0.mk HE0
  clear HE0 hE60
  go_upto_region 4 with fail
  have HG4 := Aside0.mk (blk_put HG2.out 1 (.slice A1 60 c1) rfl)
  have HB4 := Aside0.mk (show Below W.heap.size W (w2.setCell ⟨W.heap.size, 1, none⟩ (.slice A1 60 c1)) from below_set HB2.out (Nat.le_refl _))
  generalize w2.setCell ⟨W.heap.size, 1, none⟩ (.slice A1 60 c1) = w4 at HG4 HB4 ⊢
  replace HG4 : Aside0 (w4.heap[W.heap.size]? = some (.cells #[.int .i64 a0, .slice A1 60 c1, .slice A2 n2 c2] 59 (0, 0))) := HG4
  clear hz0 hz1 hz2 hf1 d1 d2 d3 g1 g2 g3 g4 g5 g6
  obtain ⟨m, hm⟩ : ∃ m, m = 60 := ⟨_, rfl⟩
  have HGm := Aside0.mk (show w4.heap[W.heap.size]? = some (.cells #[.int .i64 a0, .slice A1 m c1, .slice A2 n2 c2] 59 (0, 0)) from by rw [hm]; exact HG4.out)
  rw [← hm] at eL
  clear hm HG4
 rotate_left
 focus
  have d1 := decide_eq_false (show ¬ 24 < a0 by omega)
  obtain ⟨E, eL, HE0⟩ := (hE60 n1 (Nat.le_refl _)).out
  have HE := Aside0.mk HE0
  clear HE0 hE60
  go_upto_region 4 with fail
  obtain ⟨w4, rfl⟩ : ∃ w, w = w2 := ⟨_, rfl⟩
  have HG4 := HG2
  have HB4 := HB2
  clear hz0 hz1 hz2 hf1 d1 g1
  obtain ⟨m, hm⟩ : ∃ m, m = n1 := ⟨_, rfl⟩
  have HGm := Aside0.mk (show w4.heap[W.heap.size]? = some (.cells #[.int .i64 a0, .slice A1 m c1, .slice A2 n2 c2] 59 (0, 0)) from by rw [hm]; exact HG4.out)
  rw [← hm] at eL
  clear hm HG4
 rotate_left
 focus
  have d1 := decide_eq_true g1
  have d2 := decide_eq_false (show ¬ a0 ≤ 64 by omega)
  obtain ⟨E, eL, HE0⟩ := (hE60 n1 (Nat.le_refl _)).out
  have HE := Aside0.mk HE0
  clear HE0 hE60
  go_upto_region 4 with fail
  obtain ⟨w4, rfl⟩ : ∃ w, w = w2 := ⟨_, rfl⟩
  have HG4 := HG2
  have HB4 := HB2
  clear hz0 hz1 hz2 hf1 d1 d2 g1 g2
  obtain ⟨m, hm⟩ : ∃ m, m = n1 := ⟨_, rfl⟩
  have HGm := Aside0.mk (show w4.heap[W.heap.size]? = some (.cells #[.int .i64 a0, .slice A1 m c1, .slice A2 n2 c2] 59 (0, 0)) from by rw [hm]; exact HG4.out)
  rw [← hm] at eL
  clear hm HG4
 rotate_left
 focus
  have d1 := decide_eq_true g1
  have d2 := decide_eq_true g2
  have g4 : ¬ (60 : Int) < (n1 : Int) := by omega
  have d3 := decide_eq_false g4
  obtain ⟨E, eL, HE0⟩ := (hE60 n1 (Nat.le_refl _)).out
  have HE := Aside0.mk HE0
  clear HE0 hE60
  go_upto_region 4 with fail
  obtain ⟨w4, rfl⟩ : ∃ w, w = w2 := ⟨_, rfl⟩
  have HG4 := HG2
  have HB4 := HB2
  clear hz0 hz1 hz2 hf1 d1 d2 d3 g1 g2 g3 g4
  obtain ⟨m, hm⟩ : ∃ m, m = n1 := ⟨_, rfl⟩
  have HGm := Aside0.mk (show w4.heap[W.heap.size]? = some (.cells #[.int .i64 a0, .slice A1 m c1, .slice A2 n2 c2] 59 (0, 0)) from by rw [hm]; exact HG4.out)
  rw [← hm] at eL
  clear hm HG4
 rotate_left
 all_goals
  have HG4 := HGm
  clear HGm
  obtain ⟨L, kk, hLK⟩ : ∃ L kk, chk a0 E I = (L, kk) := ⟨_, _, rfl⟩
  have hIn : ∀ e ∈ E, In e.f2 := fun e he => (HE.out.2.2.2 e he).2.2
  have hl1 : E.length ≤ 1000 := by have := HE.out; omega
  have hl2 : I.length ≤ 1000 := by have := HI.out; omega
  have hok := chk_ok (a0 := a0) (I := I) (fun e he => ⟨(HE.out.2.2.2 e he).1, (HE.out.2.2.2 e he).2.1⟩) hl1 hl2
  rw [hLK] at hok
  have HOK := Aside0.mk (show PlOk L ∧ 0 ≤ kk ∧ kk < 15 from hok)
  obtain ⟨kt, hkt⟩ := (to5_ev (a0 := a0) (I := I) hl1 hl2).rounds
  obtain ⟨kr, hkr⟩ := (rchk_ev (a0 := a0) (E := E) (I := I) hIn hl1 hl2).rounds
  obtain ⟨kp, hkp⟩ := (rpth_ev (a0 := a0) (E := E) (I := I) hIn hl1 hl2).rounds
  obtain ⟨ko, hko⟩ := (pth_rows (a0 := a0) (E := E) (I := I)).rounds
  rw [hLK] at hkr
  have HLK := Aside0.mk hLK
  have HIN := Aside0.mk hIn
  have HLL := Aside0.mk (show E.length ≤ 1000 ∧ I.length ≤ 1000 from ⟨hl1, hl2⟩)
  have TO : Aside0 (∀ w', Below W.heap.size W w' → Calls Tryd.prog 35 #[.agg #[.int .i64 a0, .slice A1 m c1, .slice A2 n2 c2]] w' fun e w'' => ∃ v1 v2, e = .returned (.agg #[.int .i64 a0, v1, v2]) ∧ Kd.R k127 127 w'' w'.heap.size (fun _ => True) v1 (E.map c127) ∧ Kd.R (Kd.int .i64) 3 w'' w'.heap.size (fun _ => True) v2 I ∧ Below w'.heap.size w' w'') := ⟨fun w' hb => by
   have h := marchlandlaw05_To.calls kt a0 A1 c1 E A2 c2 I a0 (E.map c127) I w' (Kd.C_below HE.out.1 hb) HE.out.2.1 (Kd.C_below HI.out.1 hb) HI.out.2.1 hkt
   rw [eL, iL] at h
   exact h⟩
  have RC : Aside0 (∀ w', Below W.heap.size W w' → Calls Tryd.prog 36 #[.agg #[.int .i64 a0, .slice A1 m c1, .slice A2 n2 c2]] w' fun e w'' => ∃ v, e = .returned (.tuple #[v, .int .i64 kk]) ∧ Kd.R k42 42 w'' w'.heap.size (fun _ => True) v L ∧ Below w'.heap.size w' w'') := ⟨fun w' hb => by
   have h := marchlandref05_Check.calls kr a0 A1 c1 E A2 c2 I L kk w' (Kd.C_below HE.out.1 hb) HE.out.2.1 (Kd.C_below HI.out.1 hb) HI.out.2.1 hkr
   rw [eL, iL] at h
   exact h⟩
  obtain ⟨PT, hPT⟩ : ∃ P, pth a0 E I = P := ⟨_, rfl⟩
  rw [hPT] at hkp hko
  have RP : Aside0 (∀ w', Below W.heap.size W w' → Calls Tryd.prog 40 #[.agg #[.int .i64 a0, .slice A1 m c1, .slice A2 n2 c2]] w' fun e w'' => ∃ v, e = .returned v ∧ Kd.S (Kd.slice 22 (Kd.int .u64)) 73 w'' w'.heap.size (fun _ => True) v PT ∧ Below w'.heap.size w' w'') := ⟨fun w' hb => by
   have h := marchlandref05_Paths.calls kp a0 A1 c1 E A2 c2 I PT w' (Kd.C_below HE.out.1 hb) HE.out.2.1 (Kd.C_below HI.out.1 hb) HI.out.2.1 hkp
   rw [eL, iL] at h
   exact h⟩
  have PC : Aside0 (∀ (w' : World) (A3 : Option Addr) (c3 : Nat) (A4 : Option Addr) (c4 : Nat), Kd.C k127 w' A3 (E.map c127).length (E.map c127) → (E.map c127).length ≤ c3 → Kd.C (Kd.int .i64) w' A4 I.length I → I.length ≤ c4 → Calls Tryd.prog 39 #[.agg #[.int .i64 a0, .slice A3 m c3, .slice A4 n2 c4]] w' fun e w'' => ∃ A c, e = .returned (.slice A PT.length c) ∧ Kd.C (Kd.slice 22 (Kd.int .u64)) w'' A PT.length PT ∧ PT.length ≤ c ∧ Below w'.heap.size w' w'') := ⟨fun w' A3 c3 A4 c4 q1 q2 q3 q4 => by
   have h := Paths_C a0 A3 c3 E A4 c4 I w' q1 q2 q3 q4 HLL.out.1 HIN.out
   rw [eL, iL, hPT] at h
   exact h⟩
  have CK : Aside0 (∀ (w' : World) (A3 : Option Addr) (c3 : Nat) (A4 : Option Addr) (c4 : Nat), Kd.C k127 w' A3 (E.map c127).length (E.map c127) → (E.map c127).length ≤ c3 → Kd.C (Kd.int .i64) w' A4 I.length I → I.length ≤ c4 → Calls Tryd.prog 34 #[.agg #[.int .i64 a0, .slice A3 m c3, .slice A4 n2 c4]] w' fun e w'' => ∃ v, e = .returned v ∧ Below w'.heap.size w' w'' ∧ CheckV w'' v (L, kk)) := ⟨fun w' A3 c3 A4 c4 q1 q2 q3 q4 => by
   have h := Check_C a0 A3 c3 E A4 c4 I w' q1 q2 q3 q4 HLL.out.1 HIN.out
   rw [eL, iL, HLK.out] at h
   exact h⟩
  have RW : Aside0 (∀ (w' : World) (A3 : Option Addr) (c3 : Nat) (A4 : Option Addr) (c4 : Nat), Kd.C (Kd.slice 22 (Kd.int .u64)) w' A3 PT.length PT → PT.length ≤ c3 → Kd.C (Kd.slice 22 (Kd.int .u64)) w' A4 PT.length PT → PT.length ≤ c4 → Calls Tryd.prog 38 #[.slice A3 PT.length c3, .slice A4 PT.length c4] w' fun e w'' => e = .returned (.bool true) ∧ Below w'.heap.size w' w'') := ⟨fun w' A3 c3 A4 c4 q1 q2 q3 q4 => (marchlandlaw05_Rows.calls ko A3 c3 PT A4 c4 PT true w' q1 q2 q3 q4 hko).mono fun e w'' hh => ⟨hh.1, hh.2.below⟩⟩
  have y0 : w4.cell? ⟨W.heap.size, 0, none⟩ = some (.int .i64 a0) := (blk_cell HG4.out 0).trans rfl
  have y1 : w4.cell? ⟨W.heap.size, 1, none⟩ = some (.slice A1 m c1) := (blk_cell HG4.out 1).trans rfl
  have y2 : w4.cell? ⟨W.heap.size, 2, none⟩ = some (.slice A2 n2 c2) := (blk_cell HG4.out 2).trans rfl
  clear hLK hIn hl1 hl2 hok hkt hkr hkp hko hPT
  obtain ⟨ml, hml⟩ : ∃ x, (E.map c127).length = x := ⟨_, rfl⟩
  have eM : ml = m := by rw [← hml, List.length_map, eL]
  have HML := Aside0.mk hml
  have HEL := Aside0.mk eL
  have HIL := Aside0.mk iL
  have HEM := Aside0.mk eM
  clear hml eM eL iL
  by_cases hkk : kk = 0
  ·subst hkk
   have V6 := Aside0.mk (fun (w : World) (v : Value) (h : CheckV w v (L, 0)) => h.1 rfl)
   go_upto_region 5 with (first
    | (go_at_call 35; ((with_reducible refine (TO.out _ HB4.out).mono ?_); rintro e w5 ⟨v5a, v5b, rfl, hr1, hr2, hb⟩; obtain ⟨A5a, c5a, e1_⟩ := Kd.R_slice hr1; obtain ⟨A5b, c5b, e2_⟩ := Kd.R_slice hr2; subst e1_; subst e2_; have HR5 := Aside0.mk (show _ ∧ _ from ⟨hr1, hr2⟩); rw [List.length_map, HEL.out, HIL.out]; have HB5 := Aside0.mk (below_step HB4.out hb); have HG5 := Aside0.mk (blk_below HG4.out hb); clear hr1 hr2 hb))
    | (go_at_call 34; ((with_reducible refine (CK.out _ _ _ _ _ (Kd.R_reads' HR5.out.1).2.2 (Kd.R_reads' HR5.out.1).2.1 (Kd.R_reads' HR5.out.2).2.2 (Kd.R_reads' HR5.out.2).2.1).mono ?_); rintro e w6 ⟨v6, rfl, hb, hV⟩; have HB6 := Aside0.mk (below_step HB5.out hb); have HG6 := Aside0.mk (blk_below HG5.out hb); obtain rfl : v6 = .nilIface := V6.out _ _ hV; clear hb hV)))
   have z0 : w6.cell? ⟨W.heap.size, 0, none⟩ = some (.int .i64 a0) := (blk_cell HG6.out 0).trans rfl
   have z1 : w6.cell? ⟨W.heap.size, 1, none⟩ = some (.slice A1 m c1) := (blk_cell HG6.out 1).trans rfl
   have z2 : w6.cell? ⟨W.heap.size, 2, none⟩ = some (.slice A2 n2 c2) := (blk_cell HG6.out 2).trans rfl
   go_upto_region 6 with (first
    | (go_at_call 36; ((with_reducible refine (RC.out _ HB6.out).mono ?_); rintro e w7 ⟨v7, rfl, hr, hb⟩; obtain ⟨A7, c7, e7_⟩ := Kd.R_slice hr; subst e7_; have HR7 := Aside0.mk hr; have HB7 := Aside0.mk (below_step HB6.out hb); have HG7 := Aside0.mk (blk_below HG6.out hb); skip; clear hr hb)))
   have HSD := Aside0.mk (law_next (w := W) (w7 := w7) (w1 := w7) (n := W.heap.size) (u0 := .int .i64 a0) (u1 := .slice A1 m c1) (u2 := .slice A2 n2 c2) ⟨(blk_cell HG7.out 0).trans rfl, (blk_cell HG7.out 1).trans rfl, (blk_cell HG7.out 2).trans rfl, blk_lt HG7.out, HB7.out, Below.refl _ w7⟩ (below_drew (Below.refl _ _)))
   have KN := Aside0.mk (fun w => Kind_nil w)
   clear z0 z1 z2
   go_region_held3 (fun w' => w'.cell? ⟨W.heap.size, 0, none⟩ = some (.int .i64 a0) ∧ w'.cell? ⟨W.heap.size, 1, none⟩ = some (.slice A1 m c1) ∧ w'.cell? ⟨W.heap.size, 2, none⟩ = some (.slice A2 n2 c2) ∧ W.heap.size < w'.heap.size ∧ Below W.heap.size W w' ∧ Below w7.heap.size w7 w')
    (first | exact HSD.out | exact hN)
    (first
     | (go_at_call 37; ((with_reducible refine (told5_C _ (HV.out.1.below HSD.out.2.2.2.2.1)).mono ?_); rintro e w8 ⟨rfl, hb⟩; have hN := law_next HSD.out hb; have HN8 := Aside0.mk hN; clear hb))
     | (go_at_call 20; ((with_reducible refine (KN.out _).mono ?_); rintro e w9 ⟨rfl, hw⟩; obtain rfl := hw.symm; have hN := HN8.out; have HN9 := Aside0.mk hN))
     | (go_at_call 35; ((with_reducible refine (TO.out _ HN9.out.2.2.2.2.1).mono ?_); rintro e w10 ⟨v10a, v10b, rfl, hr1, hr2, hb⟩; obtain ⟨A10a, c10a, e1_⟩ := Kd.R_slice hr1; obtain ⟨A10b, c10b, e2_⟩ := Kd.R_slice hr2; subst e1_; subst e2_; have HR10 := Aside0.mk (show _ ∧ _ from ⟨hr1, hr2⟩); rw [List.length_map, HEL.out, HIL.out]; have hN := law_next HN9.out hb; have HN10 := Aside0.mk hN; clear hr1 hr2 hb))
     | (go_at_call 39; ((with_reducible refine (PC.out _ _ _ _ _ (Kd.R_reads' HR10.out.1).2.2 (Kd.R_reads' HR10.out.1).2.1 (Kd.R_reads' HR10.out.2).2.2 (Kd.R_reads' HR10.out.2).2.1).mono ?_); rintro e w11 ⟨A11, c11, rfl, hc, hle, hb⟩; have HP11 := Aside0.mk (show _ ∧ _ from ⟨hc, hle⟩); have hN := law_next HN10.out hb; have HN11 := Aside0.mk hN; clear hc hle hb))
     | (go_at_call 40; ((with_reducible refine (RP.out _ HN11.out.2.2.2.2.1).mono ?_); rintro e w12 ⟨v12, rfl, hs, hb⟩; obtain ⟨A12, c12, rfl⟩ := Kd.S_slice hs; have HS12 := Aside0.mk hs; have HP12 := Aside0.mk (Kd.C_below HP11.out.1 hb); have hN := law_next HN11.out hb; have HN12 := Aside0.mk hN; clear hs hb))
     | (go_at_call 38; ((with_reducible refine (RW.out _ _ _ _ _ HP12.out HP11.out.2 (Kd.S_reads' HS12.out).2.2 (Kd.S_reads' HS12.out).2.1).mono ?_); rintro e w13 ⟨rfl, hb⟩; have hN := law_next HN12.out hb; clear hb)))
   all_goals
    rename_i hH
    have HZ := Aside0.mk (show _ ∧ _ from ⟨hH.2.2.2.2.1, hH.2.2.2.2.2⟩)
    clear hH
    go_wp2
    go_ret
    exact ⟨rfl, HZ.out.1⟩
  ·have V6 := Aside0.mk (fun (w : World) (v : Value) (h : CheckV w v (L, kk)) => h.2 hkk)
   have hkb : (kk == 0) = false := beq_eq_false_iff_ne.2 hkk
   have hkd : decide (kk = 0) = false := decide_eq_false hkk
   have hkn : (kk != 0) = true := bne_iff_ne.2 hkk
   go_upto_region 5 with (first
    | (go_at_call 35; ((with_reducible refine (TO.out _ HB4.out).mono ?_); rintro e w5 ⟨v5a, v5b, rfl, hr1, hr2, hb⟩; obtain ⟨A5a, c5a, e1_⟩ := Kd.R_slice hr1; obtain ⟨A5b, c5b, e2_⟩ := Kd.R_slice hr2; subst e1_; subst e2_; have HR5 := Aside0.mk (show _ ∧ _ from ⟨hr1, hr2⟩); rw [List.length_map, HEL.out, HIL.out]; have HB5 := Aside0.mk (below_step HB4.out hb); have HG5 := Aside0.mk (blk_below HG4.out hb); clear hr1 hr2 hb))
    | (go_at_call 34; ((with_reducible refine (CK.out _ _ _ _ _ (Kd.R_reads' HR5.out.1).2.2 (Kd.R_reads' HR5.out.1).2.1 (Kd.R_reads' HR5.out.2).2.2 (Kd.R_reads' HR5.out.2).2.1).mono ?_); rintro e w6 ⟨v6, rfl, hb, hV⟩; have HB6 := Aside0.mk (below_step HB5.out hb); have HG6 := Aside0.mk (blk_below HG5.out hb); have hE6 := V6.out _ _ hV; have HE6 := Aside0.mk hE6; obtain ⟨u6, x6, rfl⟩ := hE6.iface; clear hE6; clear hb hV)))
   have z0 : w6.cell? ⟨W.heap.size, 0, none⟩ = some (.int .i64 a0) := (blk_cell HG6.out 0).trans rfl
   have z1 : w6.cell? ⟨W.heap.size, 1, none⟩ = some (.slice A1 m c1) := (blk_cell HG6.out 1).trans rfl
   have z2 : w6.cell? ⟨W.heap.size, 2, none⟩ = some (.slice A2 n2 c2) := (blk_cell HG6.out 2).trans rfl
   go_upto_region 6 with (first
    | (go_at_call 36; ((with_reducible refine (RC.out _ HB6.out).mono ?_); rintro e w7 ⟨v7, rfl, hr, hb⟩; obtain ⟨A7, c7, e7_⟩ := Kd.R_slice hr; subst e7_; have HR7 := Aside0.mk hr; have HB7 := Aside0.mk (below_step HB6.out hb); have HG7 := Aside0.mk (blk_below HG6.out hb); have HE7 := Aside0.mk (HE6.out.below hb); clear hr hb)))
   obtain ⟨TX, hTX⟩ : ∃ TX, pathG (L.map toP) L.length ++ wordOf kk = TX := ⟨_, rfl⟩
   have hTE := text_ev L kk HOK.out.2.1 HOK.out.2.2 HOK.out.1.1 HOK.out.1.2.1 HOK.out.1.2.2
   rw [hTX] at hTE
   have XT : Aside0 (∀ w', Below w7.heap.size w7 w' → Below W.heap.size W w' → Calls Tryd.prog 22 #[.iface u6 x6] w' fun e w'' => e = .returned (.string TX) ∧ Below w'.heap.size w' w'') := ⟨fun w' h7 hW => by
    have h := TextG_calls (psOf L) (.iface u6 x6) 33 (.int .i64 kk) (fun w => e_assert33 _ w) kk w' (HV.out.2.below hW) (HE7.out.below h7) (fun w'' hb' => Kind_calls (psOf L) _ kk w'' ((HE7.out.below h7).below hb') ((HV.out.1.below hW).below hb')) (by rw [psOf_len]; have := HOK.out.1.1; omega) (psOf_ok HOK.out.1.2).1 (psOf_ok HOK.out.1.2).2 HOK.out.2.1 HOK.out.2.2
    rw [psOf_toP, psOf_len, hTX] at h
    exact h⟩
   have XR : Aside0 (∀ w', Below w7.heap.size w7 w' → Calls Tryd.prog 23 #[.slice A7 L.length c7, .int .i64 kk] w' fun e w'' => e = .returned (.string TX) ∧ Below w'.heap.size w' w'') := ⟨fun w' h7 => marchlandref02_Text.calls 40 A7 c7 L kk TX w' (Kd.C_below (Kd.R_reads' HR7.out).2.2 h7) (Kd.R_reads' HR7.out).2.1 hTE⟩
   clear hTX hTE
   have HSD := Aside0.mk (law_next (w := W) (w7 := w7) (w1 := w7) (n := W.heap.size) (u0 := .int .i64 a0) (u1 := .slice A1 m c1) (u2 := .slice A2 n2 c2) ⟨(blk_cell HG7.out 0).trans rfl, (blk_cell HG7.out 1).trans rfl, (blk_cell HG7.out 2).trans rfl, blk_lt HG7.out, HB7.out, Below.refl _ w7⟩ (below_drew (Below.refl _ _)))
   have KN := Aside0.mk (fun w => Kind_nil w)
   clear z0 z1 z2
   go_region_held3 (fun w' => w'.cell? ⟨W.heap.size, 0, none⟩ = some (.int .i64 a0) ∧ w'.cell? ⟨W.heap.size, 1, none⟩ = some (.slice A1 m c1) ∧ w'.cell? ⟨W.heap.size, 2, none⟩ = some (.slice A2 n2 c2) ∧ W.heap.size < w'.heap.size ∧ Below W.heap.size W w' ∧ Below w7.heap.size w7 w')
    (first | exact HSD.out | exact hN)
    (first
     | (go_at_call 37; ((with_reducible refine (told5_C _ (HV.out.1.below HSD.out.2.2.2.2.1)).mono ?_); rintro e w8 ⟨rfl, hb⟩; have hN := law_next HSD.out hb; have HN8 := Aside0.mk hN; clear hb))
     | (go_at_call 20; ((with_reducible refine (Kind_calls (psOf L) (.iface u6 x6) kk _ (HE7.out.below HN8.out.2.2.2.2.2) (HV.out.1.below HN8.out.2.2.2.2.1)).mono ?_); rintro e w9 ⟨rfl, hb⟩; have hN := law_next HN8.out hb; have HN9 := Aside0.mk hN; clear hb))
     | (go_at_call 35; ((with_reducible refine (TO.out _ HN9.out.2.2.2.2.1).mono ?_); rintro e w10 ⟨v10a, v10b, rfl, hr1, hr2, hb⟩; obtain ⟨A10a, c10a, e1_⟩ := Kd.R_slice hr1; obtain ⟨A10b, c10b, e2_⟩ := Kd.R_slice hr2; subst e1_; subst e2_; have HR10 := Aside0.mk (show _ ∧ _ from ⟨hr1, hr2⟩); rw [List.length_map, HEL.out, HIL.out]; have hN := law_next HN9.out hb; have HN10 := Aside0.mk hN; clear hr1 hr2 hb))
     | (go_at_call 39; ((with_reducible refine (PC.out _ _ _ _ _ (Kd.R_reads' HR10.out.1).2.2 (Kd.R_reads' HR10.out.1).2.1 (Kd.R_reads' HR10.out.2).2.2 (Kd.R_reads' HR10.out.2).2.1).mono ?_); rintro e w11 ⟨A11, c11, rfl, hc, hle, hb⟩; have HP11 := Aside0.mk (show _ ∧ _ from ⟨hc, hle⟩); have hN := law_next HN10.out hb; have HN11 := Aside0.mk hN; clear hc hle hb))
     | (go_at_call 40; ((with_reducible refine (RP.out _ HN11.out.2.2.2.2.1).mono ?_); rintro e w12 ⟨v12, rfl, hs, hb⟩; obtain ⟨A12, c12, rfl⟩ := Kd.S_slice hs; have HS12 := Aside0.mk hs; have HP12 := Aside0.mk (Kd.C_below HP11.out.1 hb); have hN := law_next HN11.out hb; have HN12 := Aside0.mk hN; clear hs hb))
     | (go_at_call 38; ((with_reducible refine (RW.out _ _ _ _ _ HP12.out HP11.out.2 (Kd.S_reads' HS12.out).2.2 (Kd.S_reads' HS12.out).2.1).mono ?_); rintro e w13 ⟨rfl, hb⟩; have hN := law_next HN12.out hb; clear hb)))
   all_goals
    rename_i hH
    have HZ := Aside0.mk (show _ ∧ _ from ⟨hH.2.2.2.2.1, hH.2.2.2.2.2⟩)
    clear hH
    go_wp2_with (first
     | (go_at_call 22; ((with_reducible refine (XT.out _ HZ.out.2 HZ.out.1).mono ?_); rintro e w15 ⟨rfl, hb⟩; have HZ2 := Aside0.mk (show _ ∧ _ from ⟨below_step HZ.out.1 hb, below_step HZ.out.2 hb⟩); clear hb))
     | (go_at_call 23; ((with_reducible refine (XR.out _ HZ2.out.2).mono ?_); rintro e w16 ⟨rfl, hb⟩; have HZ3 := Aside0.mk (below_step HZ2.out.1 hb); clear hb)))
    go_ret
    exact ⟨by first | rfl | exact congrArg (fun b => Ending.returned (Value.bool b)) hkn, HZ3.out⟩
open Go.ChangeShapes Go.WideShapes Go.Deep
open Go.Proofs.YtgeldmhgbnamcaaDoor.P (Opens OpensSeg Opens.iso Opens.struct Opens.slice Opens.imp OpensSeg.cons OpensSeg.one opens_i64 opens_u64)
open Go.Proofs.YtgeldmhgbnamcaaDoor.Q (S75 k75 z75)
instance inh75 : Inhabited S75 := ⟨z75⟩
def Ed75 (x : S75) : Prop := (-9223372036854775808 ≤ x.f0 ∧ x.f0 ≤ 9223372036854775807) ∧ (-9223372036854775808 ≤ x.f1 ∧ x.f1 ≤ 9223372036854775807) ∧ 0 ≤ x.f2 ∧ x.f2 ≤ 18446744073709551615
theorem opens75 : Opens Tryd.prog 75 k75 Ed75 :=
 (Opens.iso (Opens.struct (d := Kd.pair (Kd.int .i64) (Kd.pair (Kd.int .i64) (Kd.int .u64))) Tryd.underlying75 (by kernel_rfl)
  (OpensSeg.cons rfl (by kernel_rfl) (by decide) (opens_i64 Tryd.underlying3) (OpensSeg.cons rfl (by kernel_rfl) (by decide) (opens_i64 Tryd.underlying3) (OpensSeg.one rfl (by kernel_rfl) (opens_u64 Tryd.underlying22)))))
  (fun x : S75 => (x.f0, x.f1, x.f2)) (fun y => ⟨y.1, y.2.1, y.2.2⟩) (fun _ => rfl)).imp fun _ h => ⟨h.1, h.2.1, h.2.2⟩
theorem opens59 : Opens Tryd.prog 59 (Kd.pair (Kd.int .i64) (Kd.pair (Kd.slice 75 k75) (Kd.slice 3 (Kd.int .i64)))) (fun y => ∀ x ∈ y.2.1, Ed75 x) :=
 (Opens.struct Tryd.underlying59 (by kernel_rfl) (OpensSeg.cons rfl (by kernel_rfl) (by decide) (opens_i64 Tryd.underlying3) (OpensSeg.cons rfl (by kernel_rfl) (by decide) (Opens.slice Tryd.underlying56 (by kernel_rfl) opens75) (OpensSeg.one rfl (by kernel_rfl) (Opens.slice Tryd.underlying57 (by kernel_rfl) (opens_i64 Tryd.underlying3)))))).imp fun _ h => h.2.1.2
set_option maxRecDepth 100000 in
theorem open59q {H : Type} {enc : TypeId × Value → H} {w : World} {base : Nat} {spare : Nat → Bool} {held : Bool}
  {r : Reach} {b0 : Nat} {v : Value} {d : DataW H} {p : List MemPlace} (hv : Value.okWide Tryd.prog w r b0 59 v) (h : DataW.Trod enc Tryd.prog w base spare held 59 v d p) :
  ∃ (a0 : Int) (A1 : Option Addr) (c1 : Nat) (l1 : List S75) (A2 : Option Addr) (c2 : Nat) (l2 : List Int), v = .agg #[.int .i64 a0, .slice A1 l1.length c1, .slice A2 l2.length c2] ∧ Kd.C k75 w A1 l1.length l1 ∧ l1.length ≤ c1 ∧ (∀ y ∈ l1, Ed75 y) ∧ Kd.C (Kd.int .i64) w A2 l2.length l2 ∧ l2.length ≤ c2 := by
 obtain ⟨cs, rfl⟩ : ∃ cs : Array Value, v = .agg cs := by
  simp only [Value.okWide, Tryd.underlying59] at hv
  obtain ⟨cs, h1, _⟩ := hv
  exact ⟨cs, h1⟩
 obtain ⟨fuel, hf⟩ := h
 obtain ⟨⟨a0, l1, l2⟩, hK, hq⟩ := opens59 H enc w base spare held fuel _ _ hf
 obtain ⟨s0, s1, e0, h0, t0, t1, e1, ⟨A1, c1, h1, hc1, hC1⟩, ⟨A2, c2, h2, hc2, hC2⟩⟩ := hK
 have h0 : s0 = [.int .i64 a0] := h0
 subst h0 h1 h2 e1
 refine ⟨a0, A1, c1, l1, A2, c2, l2, ?_, hC1, hc1, hq, hC2, hc2⟩
 have e0 : cs.toList = _ := e0
 congr 1
 apply Array.toList_inj.1
 rw [e0]; rfl
end Go.Proofs.YtgeldmhgbnamcaaDoor.G
end
section
namespace Go.Proofs.YtgeldmhgbnamcaaDoor.P
open Go.RowKit Go.Deep
theorem tab10_of_laid {W : World} (h : laidMetH Tryd.prog listH W) : Tab10 W := by
 have h' : laidMet Tryd.prog dataL W ∧ handlesMet Tryd.prog [("errors.errorType", Rows.laid_errors_errorType)] W := h
 have h2 : laidMet Tryd.prog [("internal/strconv.uint64pow10", Lib.tabData .u64 Lib.pow10Tab)] W := h'.1.tail.tail
 exact Lib.tabIs_of_head (g := 3) (t := 200) (e := 22) (n := 20) (by kernel_rfl) (by kernel_rfl) Tryd.underlying200 Tryd.underlying22 (by kernel_rfl) (by kernel_rfl) h2
open Go.RowKit Go.Proofs.YtgeldmhgbnamcaaDoorW.PrintWords
open Go.Proofs.YtgeldmhgbnamcaaDoor.G (Ed75 GraphChecks_calls)
def marchlandlaw05_GraphChecks.f (_k : Nat) (_a : Int) (_l : List Go.Proofs.YtgeldmhgbnamcaaDoor.Q.S75) (_m : List Int) : Option Bool := some true
theorem marchlandlaw05_GraphChecks.calls (k : Nat) (a0 : Int) (A1 : Option Addr) (c1 : Nat) (l1 : List Go.Proofs.YtgeldmhgbnamcaaDoor.Q.S75) (A2 : Option Addr) (c2 : Nat) (l2 : List Int) (r : Bool) (w : World) (hC1 : Kd.C Go.Proofs.YtgeldmhgbnamcaaDoor.Q.k75 w A1 l1.length l1) (hc1 : l1.length ≤ c1) (hC2 : Kd.C (Kd.int .i64) w A2 l2.length l2) (hc2 : l2.length ≤ c2) (hq : ∀ y ∈ l1, Ed75 y) (hg : TypeVar w) (ht : Tab10 w) (h : marchlandlaw05_GraphChecks.f k a0 l1 l2 = some r) :
    Calls Tryd.prog 8 #[.agg #[.int .i64 a0, .slice A1 l1.length c1, .slice A2 l2.length c2]] w fun e w' => e = .returned (.bool r) ∧ Below w.heap.size w w' := by
  obtain rfl := Option.some.inj h
  exact GraphChecks_calls a0 A1 c1 l1 A2 c2 l2 w hC1 hc1 hC2 hc2 hq hg ht
end Go.Proofs.YtgeldmhgbnamcaaDoor.P
namespace Go.Proofs.YtgeldmhgbnamcaaDoor.Pure
theorem GraphChecks (a : Int) (l : List Go.Proofs.YtgeldmhgbnamcaaDoor.Q.S75) (m : List Int) : ∃ k, P.marchlandlaw05_GraphChecks.f k a l m = some true := ⟨0, rfl⟩
end Go.Proofs.YtgeldmhgbnamcaaDoor.Pure
end
