/- Walks and laws of several statements of this seat, joined into one text; no condition. -/
import Derived.Test.YtgeldmhgbnamcaaProg
import Derived.Below
import Derived.Deep.Draws
import Derived.Deep.AppendLies
import Derived.Maps.AppendAt
import Derived.OwnWalk
import Derived.Laws.BytesArg
import Derived.Laws.MakeOwn
import Derived.Laws.OwnMore
import Derived.Deep.OwnRows
import Derived.Tactics
import Derived.Lib.ConvBytes
import Derived.Laws.Slices
import Derived.WalkKit
import Derived.KernelRfl
import Derived.RowKit3
import Derived.Deep.LoopGhost
import Derived.Deep.QuietTactic
import Derived.BigQuiet
import Derived.WideLaws
import Derived.Deep.DeepCutAuto
import Derived.Deep.CutBlock
import Derived.Deep.RegionHeld3
import Derived.Laws.Rows
import Derived.Lib.AppendStr
import Derived.ArgAppend
import Derived.Laws.IdiomCopy
import Derived.OrdersHeld
import Derived.Laws.BitsLemmas
import Derived.RowKit
import Derived.Laws.StructEq
import Derived.Lib.BufferMore
import Derived.Deep.Slices
import Derived.SizedLaws
import Derived.OpenShut
import Derived.IntWalk
import Derived.Outline
import Derived.Test.YtgeldmhgbnamcaaYa0
import Derived.Test.YtgeldmhgbnamcaaYa1
import Derived.Test.YtgeldmhgbnamcaaYa6
import Derived.Test.YtgeldmhgbnamcaaYa5
import Derived.Test.YtgeldmhgbnamcaaYa2
import Derived.Test.YtgeldmhgbnamcaaYa4
section
-- Printed by the session's own turn of the print (wip/tools/print2.sh): some callees are proved by hand.
namespace Go.Proofs.Ytgeldmhgbnamcaa.P
open Go.RowKit Go.Proofs.YtgeldmhgbnamcaaW.PrintWords Go.Proofs.YtgeldmhgbnamcaaW.PrintLast Go.Proofs.YtgeldmhgbnamcaaW.PrintMore
attribute [local go_sem] max2_int min2_int max_two min_two max_three min_three max_four min_four   -- for this text's walks alone
set_option linter.unusedVariables false
set_option linter.unusedSimpArgs false

/-! ### marchlandref03_Fix: function 22 -/
def marchlandref03_Fix.l0 : Nat → List (S40) → List (S40) → Int → Option ((List (S40)))
 | 0, _, _, _ => none
 | k + 1, x0, x3, x4 => if x4 < (x0.length : Int) then (if x4 < 12 then (if 0 ≤ x4 then (if x3.length < 5864062014805 then (marchlandref03_Fix.l0 k x0 (x3 ++ [(⟨wrap64 (Int.tmod (IntKind.u64.wrap ((rd_T40 x0 x4).f0)) 64), Int.tmod ((rd_T40 x0 x4).f1) 18446744073709551615, Int.tmod ((rd_T40 x0 x4).f2) 1000⟩ : S40)]) (wrap64 (x4 + 1))) else (none)) else (none)) else ((marchlandref03_sums.f k x3).bind fun bt301 => (some bt301.1))) else ((marchlandref03_sums.f k x3).bind fun bt305 => (some bt305.1))
def marchlandref03_Fix.f (k : Nat) (l0 : List (S40)) : Option ((List (S40))) := marchlandref03_Fix.l0 k l0 ([] : List (S40)) 0
theorem marchlandref03_Fix.mono_l : ∀ k, (∀ y0 y1 y2, LeO (marchlandref03_Fix.l0 k y0 y1 y2) (marchlandref03_Fix.l0 (k + 1) y0 y1 y2))
 | 0 => fun _ _ _ r h => by simp [marchlandref03_Fix.l0] at h
 | k + 1 => by
  have ih0 := marchlandref03_Fix.mono_l k
  ·intro y0 y1 y2
   unfold marchlandref03_Fix.l0
   repeat' first
   | (with_reducible exact ih0 _ _ _)
   | (with_reducible exact marchlandref03_sums.mono _ _)
   | (with_reducible exact LeO.refl _)
   | (with_reducible exact LeO.none _)
   | (with_reducible refine LeO.ite ?_ ?_)
   | (with_reducible refine LeO.bind ?_ (fun _ => ?_))
   | exact ih0 _ _ _
   | exact marchlandref03_sums.mono _ _
   | exact LeO.none _
   | refine LeO.ite ?_ ?_
   | refine LeO.bind ?_ (fun _ => ?_)
theorem marchlandref03_Fix.mono : ∀ a0 k, LeO (marchlandref03_Fix.f k a0) (marchlandref03_Fix.f (k + 1) a0) := by
 intro a0 k
 have ih0 := marchlandref03_Fix.mono_l k
 unfold marchlandref03_Fix.f
 repeat' first
   | (with_reducible exact ih0 _ _ _)
   | (with_reducible exact marchlandref03_sums.mono _ _)
   | (with_reducible exact LeO.refl _)
   | (with_reducible exact LeO.none _)
   | (with_reducible refine LeO.ite ?_ ?_)
   | (with_reducible refine LeO.bind ?_ (fun _ => ?_))
   | exact ih0 _ _ _
   | exact marchlandref03_sums.mono _ _
   | exact LeO.none _
   | refine LeO.ite ?_ ?_
   | refine LeO.bind ?_ (fun _ => ?_)
def marchlandref03_Fix.T5 : Bool × List (List Nat × List Nat) := (true, [([], []), ([], []), ([], []), ([1, 2], [1, 2]), ([3], [3]), ([4], [4]), ([5], [5]), ([6], [6]), ([7], [7]), ([], []), ([], []), ([9, 10], [9, 10]), ([11], [11]), ([12], [12]), ([13], [13]), ([], []), ([], []), ([15, 16], [15, 16]), ([17], [17]), ([18], [18]), ([19], [19]), ([8, 14, 20], [8, 14, 20]), ([21], [21]), ([0, 22], [0, 22]), ([23, 23, 0, 1, 2, 3, 4, 5, 6, 7, 8, 9, 10, 11, 12, 13, 14, 15, 16, 17, 18, 19, 20, 21, 22, 23], [0, 23])])
def marchlandref03_Fix.B5 : List Nat := [0, 0, 0, 6, 14, 30, 62, 126, 254, 0, 0, 1536, 3584, 7680, 15872, 0, 0, 98304, 229376, 491520, 1015808, 2097150, 4194302, 8388607, 16777215]
theorem marchlandref03_Fix.tab5 : rtab .any (opsOf Try.f22 5) = marchlandref03_Fix.T5 := by kernel_rfl
theorem marchlandref03_Fix.bits5 : waitsOk marchlandref03_Fix.T5.2 marchlandref03_Fix.B5 = true := by kernel_rfl
set_option maxHeartbeats 8000000 in
set_option maxRecDepth 100000 in
theorem marchlandref03_Fix.calls (k : Nat) (A0 : Option Addr) (c0 : Nat) (l0 : List (S40)) (r : List (S40)) (w : World) (hr0 : Kd.C k40 w A0 l0.length l0) (hc0 : l0.length ≤ c0) (h : marchlandref03_Fix.f k l0 = some r) :
  Calls Try.prog 22 #[.slice A0 l0.length c0] w fun e w' => ∃ v0_ : Value, e = .returned (v0_) ∧ Kd.R k40 40 w' w.heap.size (fun _ => True) v0_ r ∧ Below w.heap.size w w' := by
 have hu40 := Try.underlying40
 have HR0 := Aside0.mk hr0
 have HC0 := Aside0.mk hc0
 clear hr0 hc0
 have HB := Aside0.mk (Below.refl w.heap.size w)
 have H : (marchlandref03_Fix.l0 k l0 ([] : List (S40)) 0) = some r := h
 clear h
 have H' := Aside0.mk H
 clear H
 go_enter Try.func22, Try.ntmps22
 go_wp2
 go_loopg [3, 4] k (fun kq v3 v4 w' => ∃ (x3_1 : List (S40)) (x4_1 : Int), v4 = .int .i64 x4_1 ∧ Aside0 (marchlandref03_Fix.l0 kq l0 x3_1 x4_1 = some r) ∧ Aside0 (kq ≤ k) ∧ Aside0 (Kd.R k40 40 w' w.heap.size (fun _ => True) v3 x3_1) ∧ Aside0 (Below w.heap.size w w'))
 case atStart => exact ⟨(([] : List (S40))), (0), (by first | rfl | (simp; done) | (simp [*]; done)), H', ⟨Nat.le_refl _⟩, ⟨by first | exact Kd.R_nil _ _ _ _ _ | exact Kd.N_nil _ _ _ _ _ | exact Kd.V_nil _ _ _ _ _ | exact Kd.Q_nil _ _ _ _ _ | exact Kd.S_nil _ _ _ _ _⟩, ⟨by repeat (first | (with_reducible first | exact HB.out | apply below_alloc | apply pw_below_drewN | apply below_drew1) | exact HB.out)⟩⟩
 case round =>
  clear H'
  obtain ⟨x3_1, x4_1, rfl, HA, HK1, HO_3, HB⟩ := hrel
  cases gk with
  | zero => exact absurd HA.out (by simp [marchlandref03_Fix.l0])
  | succ k1 =>
   have H := HA.out
   clear HA
   simp only [marchlandref03_Fix.l0] at H
   by_cases c2 : x4_1 < (l0.length : Int)
   ·rw [if_pos c2] at H
    have c2b0 : decide (x4_1 < (l0.length : Int)) = true := decide_eq_true c2
    clear c2
    by_cases c3 : x4_1 < 12
    ·rw [if_pos c3] at H
     have c3b0 : decide (x4_1 < 12) = true := decide_eq_true c3
     clear c3
     by_cases c4 : 0 ≤ x4_1
     ·rw [if_pos c4] at H
      have c4b0 : decide (0 ≤ x4_1) = true := decide_eq_true c4
      clear c4
      by_cases c5 : x3_1.length < 5864062014805
      ·rw [if_pos c5] at H
       have LMc5 := Aside0.mk c5
       clear c5
       obtain ⟨y298, hy298⟩ : ∃ y_ : List (S40), y_ = (x3_1 ++ [(⟨wrap64 (Int.tmod (IntKind.u64.wrap ((rd_T40 l0 x4_1).f0)) 64), Int.tmod ((rd_T40 l0 x4_1).f1) 18446744073709551615, Int.tmod ((rd_T40 l0 x4_1).f2) 1000⟩ : S40)]) := ⟨_, rfl⟩
       replace H : (marchlandref03_Fix.l0 k1 l0 y298 (wrap64 (x4_1 + 1))) = some r := by first | (rw [hy298]; with_reducible exact H) | (have H2_ := (Option.bind_some _ _).symm.trans H; rw [hy298]; with_reducible exact H2_) | (have H2_ := (Option.bind_some _ _).symm.trans H; with_reducible exact H2_) | with_reducible exact H | (rw [hy298]; exact H) | exact H
       have Ny298 := Aside0.mk hy298
       clear hy298
       have H' := Aside0.mk H
       clear H
       try go_wp2
       have n0_ := Aside0.mk (Kd.R_drew HO_3.out)
       have n1_ := Aside0.mk (below_drew1 HB.out)
       clear HO_3
       clear HB
       have HO_3 := n0_
       have HB := n1_
       clear n0_ n1_
       have p295 : 0 ≤ (x4_1 : Int) := of_decide_eq_true (by first | (with_reducible assumption) | assumption)
       have q295 : x4_1 < (l0.length : Int) := of_decide_eq_true (by first | (with_reducible assumption) | assumption)
       obtain ⟨ad295, e295, hx295_0, hx295_1, hx295_2⟩ := at_T40 HR0.out x4_1 p295 q295
       have hw295_2 := hx295_2
       have hw295_1 := hx295_1
       have hw295_0 := hx295_0
       cases e295
       replace hx295_0 := (HB.out.cell (World.block_lt_of_cell? w _ hx295_0)).trans hx295_0
       replace hx295_1 := (HB.out.cell (World.block_lt_of_cell? w _ hx295_1)).trans hx295_1
       replace hx295_2 := (HB.out.cell (World.block_lt_of_cell? w _ hx295_2)).trans hx295_2
       replace p295 := eq_true p295
       replace q295 := eq_true q295
       have p296 : 0 ≤ (x4_1 : Int) := of_decide_eq_true (by first | (with_reducible assumption) | assumption)
       have q296 : x4_1 < (l0.length : Int) := of_decide_eq_true (by first | (with_reducible assumption) | assumption)
       obtain ⟨ad296, e296, hx296_0, hx296_1, hx296_2⟩ := at_T40 HR0.out x4_1 p296 q296
       have hw296_2 := hx296_2
       have hw296_1 := hx296_1
       have hw296_0 := hx296_0
       obtain rfl : ad295 = ad296 := (by injection e296)
       replace hx296_0 := (HB.out.cell (World.block_lt_of_cell? w _ hx296_0)).trans hx296_0
       replace hx296_1 := (HB.out.cell (World.block_lt_of_cell? w _ hx296_1)).trans hx296_1
       replace hx296_2 := (HB.out.cell (World.block_lt_of_cell? w _ hx296_2)).trans hx296_2
       replace p296 := eq_true p296
       replace q296 := eq_true q296
       have p297 : 0 ≤ (x4_1 : Int) := of_decide_eq_true (by first | (with_reducible assumption) | assumption)
       have q297 : x4_1 < (l0.length : Int) := of_decide_eq_true (by first | (with_reducible assumption) | assumption)
       obtain ⟨ad297, e297, hx297_0, hx297_1, hx297_2⟩ := at_T40 HR0.out x4_1 p297 q297
       have hw297_2 := hx297_2
       have hw297_1 := hx297_1
       have hw297_0 := hx297_0
       obtain rfl : ad295 = ad297 := (by injection e297)
       replace hx297_0 := (HB.out.cell (World.block_lt_of_cell? w _ hx297_0)).trans hx297_0
       replace hx297_1 := (HB.out.cell (World.block_lt_of_cell? w _ hx297_1)).trans hx297_1
       replace hx297_2 := (HB.out.cell (World.block_lt_of_cell? w _ hx297_2)).trans hx297_2
       replace p297 := eq_true p297
       replace q297 := eq_true q297
       refine start_ (n := 25) (S := fun w' => w'.cell? (ad295.add ((x4_1).toNat * 3)) = some (.int .i64 ((rd_T40 l0 x4_1).f0)) ∧ w'.cell? ⟨(ad295.add ((x4_1).toNat * 3)).block, (ad295.add ((x4_1).toNat * 3)).off + 1, none⟩ = some (.int .u64 ((rd_T40 l0 x4_1).f1)) ∧ w'.cell? ⟨(ad295.add ((x4_1).toNat * 3)).block, (ad295.add ((x4_1).toNat * 3)).off + 2, none⟩ = some (.int .i64 ((rd_T40 l0 x4_1).f2)) ∧ w'.cell? (ad295.add ((x4_1).toNat * 3)) = some (.int .i64 ((rd_T40 l0 x4_1).f0)) ∧ w'.cell? ⟨(ad295.add ((x4_1).toNat * 3)).block, (ad295.add ((x4_1).toNat * 3)).off + 1, none⟩ = some (.int .u64 ((rd_T40 l0 x4_1).f1)) ∧ w'.cell? ⟨(ad295.add ((x4_1).toNat * 3)).block, (ad295.add ((x4_1).toNat * 3)).off + 2, none⟩ = some (.int .i64 ((rd_T40 l0 x4_1).f2)) ∧ w'.cell? (ad295.add ((x4_1).toNat * 3)) = some (.int .i64 ((rd_T40 l0 x4_1).f0)) ∧ w'.cell? ⟨(ad295.add ((x4_1).toNat * 3)).block, (ad295.add ((x4_1).toNat * 3)).off + 1, none⟩ = some (.int .u64 ((rd_T40 l0 x4_1).f1)) ∧ w'.cell? ⟨(ad295.add ((x4_1).toNat * 3)).block, (ad295.add ((x4_1).toNat * 3)).off + 2, none⟩ = some (.int .i64 ((rd_T40 l0 x4_1).f2))) (ds := []) (mk_ 0 25) (by kernel_rfl) rfl rfl ⟨((HB.out.cell (World.block_lt_of_cell? w _ hw295_0)).trans hw295_0), ((HB.out.cell (World.block_lt_of_cell? w _ hw295_1)).trans hw295_1), ((HB.out.cell (World.block_lt_of_cell? w _ hw295_2)).trans hw295_2), ((HB.out.cell (World.block_lt_of_cell? w _ hw296_0)).trans hw296_0), ((HB.out.cell (World.block_lt_of_cell? w _ hw296_1)).trans hw296_1), ((HB.out.cell (World.block_lt_of_cell? w _ hw296_2)).trans hw296_2), ((HB.out.cell (World.block_lt_of_cell? w _ hw297_0)).trans hw297_0), ((HB.out.cell (World.block_lt_of_cell? w _ hw297_1)).trans hw297_1), ((HB.out.cell (World.block_lt_of_cell? w _ hw297_2)).trans hw297_2)⟩ (fun hHeld => ?_); refine with_tabW marchlandref03_Fix.tab5 marchlandref03_Fix.bits5 (fun HT_ HW_ => ?_)
       generalize wr.drew = w6 at HO_3 HB hx295_0 hx295_1 hx295_2 hx296_0 hx296_1 hx296_2 hx297_0 hx297_1 hx297_2 hHeld ⊢
       refine pv_ 0 17 (mk_ 1 24) HT_ ?_
       refine pv_ 1 18 (mk_ 2 23) HT_ ?_
       refine pv_ 2 19 (mk_ 3 22) HT_ ?_
       refine pv_ 3 20 (mk_ 4 21) HT_ ?_
       refine pv_ 4 21 (mk_ 5 20) HT_ ?_
       refine pv_ 9 26 #[true, true, true, true, true, false, false, false, false, true, false, false, false, false, false, false, false, false, false, false, false, false, false, false, false] HT_ ?_
       refine pv_ 10 27 #[true, true, true, true, true, false, false, false, false, true, true, false, false, false, false, false, false, false, false, false, false, false, false, false, false] HT_ ?_
       refine pv_ 11 28 #[true, true, true, true, true, false, false, false, false, true, true, true, false, false, false, false, false, false, false, false, false, false, false, false, false] HT_ ?_
       refine pv_ 12 29 #[true, true, true, true, true, false, false, false, false, true, true, true, true, false, false, false, false, false, false, false, false, false, false, false, false] HT_ ?_
       refine pv_ 15 32 #[true, true, true, true, true, false, false, false, false, true, true, true, true, false, false, true, false, false, false, false, false, false, false, false, false] HT_ ?_
       refine pv_ 16 33 #[true, true, true, true, true, false, false, false, false, true, true, true, true, false, false, true, true, false, false, false, false, false, false, false, false] HT_ ?_
       refine pv_ 17 34 #[true, true, true, true, true, false, false, false, false, true, true, true, true, false, false, true, true, true, false, false, false, false, false, false, false] HT_ ?_
       refine pv_ 18 35 #[true, true, true, true, true, false, false, false, false, true, true, true, true, false, false, true, true, true, true, false, false, false, false, false, false] HT_ ?_
       refine tv_ 5 22 #[true, true, true, true, true, true, false, false, false, true, true, true, true, false, false, true, true, true, true, false, false, false, false, false, false] HT_ HW_ hHeld (hy := by rintro w' ⟨s0, s1, s2, s3, s4, s5, s6, s7, s8⟩; go_simp; with_reducible rfl) (h := ?_)
       refine pv_ 6 23 #[true, true, true, true, true, true, true, false, false, true, true, true, true, false, false, true, true, true, true, false, false, false, false, false, false] HT_ ?_
       refine pv_ 7 24 #[true, true, true, true, true, true, true, true, false, true, true, true, true, false, false, true, true, true, true, false, false, false, false, false, false] HT_ ?_
       refine pv_ 8 25 #[true, true, true, true, true, true, true, true, true, true, true, true, true, false, false, true, true, true, true, false, false, false, false, false, false] HT_ ?_
       refine tv_ 13 30 #[true, true, true, true, true, true, true, true, true, true, true, true, true, true, false, true, true, true, true, false, false, false, false, false, false] HT_ HW_ hHeld (hy := by rintro w' ⟨s0, s1, s2, s3, s4, s5, s6, s7, s8⟩; go_simp; with_reducible rfl) (h := ?_)
       refine pv_ 14 31 (mk_ 19 6) HT_ ?_
       refine tv_ 19 36 (mk_ 20 5) HT_ HW_ hHeld (hy := by rintro w' ⟨s0, s1, s2, s3, s4, s5, s6, s7, s8⟩; go_simp; with_reducible rfl) (h := ?_)
       refine pv_ 20 37 (mk_ 21 4) HT_ ?_
       refine pv_ 21 38 (mk_ 22 3) HT_ ?_
       refine one_ (i := 22) (N := some 39) (mk_ 23 2) rfl rfl (one_of HT_.out (by kernel_rfl)) (by decide) (fun K hK => ?_)
       refine value_ (w1 := ?_) (v := ?_) (by rfl) rfl ?_ ?_
       rotate_left 2
       ·go_simp
        constructor
        ·rfl
        ·rfl
       refine hK.out _ _ ⟨(World.cell?_alloc_lt _ _ _ (World.block_lt_of_cell? _ _ (((HB.out.cell (World.block_lt_of_cell? w _ hw295_0)).trans hw295_0)))).trans (((HB.out.cell (World.block_lt_of_cell? w _ hw295_0)).trans hw295_0)), (World.cell?_alloc_lt _ _ _ (World.block_lt_of_cell? _ _ (((HB.out.cell (World.block_lt_of_cell? w _ hw295_1)).trans hw295_1)))).trans (((HB.out.cell (World.block_lt_of_cell? w _ hw295_1)).trans hw295_1)), (World.cell?_alloc_lt _ _ _ (World.block_lt_of_cell? _ _ (((HB.out.cell (World.block_lt_of_cell? w _ hw295_2)).trans hw295_2)))).trans (((HB.out.cell (World.block_lt_of_cell? w _ hw295_2)).trans hw295_2)), (World.cell?_alloc_lt _ _ _ (World.block_lt_of_cell? _ _ (((HB.out.cell (World.block_lt_of_cell? w _ hw296_0)).trans hw296_0)))).trans (((HB.out.cell (World.block_lt_of_cell? w _ hw296_0)).trans hw296_0)), (World.cell?_alloc_lt _ _ _ (World.block_lt_of_cell? _ _ (((HB.out.cell (World.block_lt_of_cell? w _ hw296_1)).trans hw296_1)))).trans (((HB.out.cell (World.block_lt_of_cell? w _ hw296_1)).trans hw296_1)), (World.cell?_alloc_lt _ _ _ (World.block_lt_of_cell? _ _ (((HB.out.cell (World.block_lt_of_cell? w _ hw296_2)).trans hw296_2)))).trans (((HB.out.cell (World.block_lt_of_cell? w _ hw296_2)).trans hw296_2)), (World.cell?_alloc_lt _ _ _ (World.block_lt_of_cell? _ _ (((HB.out.cell (World.block_lt_of_cell? w _ hw297_0)).trans hw297_0)))).trans (((HB.out.cell (World.block_lt_of_cell? w _ hw297_0)).trans hw297_0)), (World.cell?_alloc_lt _ _ _ (World.block_lt_of_cell? _ _ (((HB.out.cell (World.block_lt_of_cell? w _ hw297_1)).trans hw297_1)))).trans (((HB.out.cell (World.block_lt_of_cell? w _ hw297_1)).trans hw297_1)), (World.cell?_alloc_lt _ _ _ (World.block_lt_of_cell? _ _ (((HB.out.cell (World.block_lt_of_cell? w _ hw297_2)).trans hw297_2)))).trans (((HB.out.cell (World.block_lt_of_cell? w _ hw297_2)).trans hw297_2))⟩ (fun hHeld => ?_)
       clear hK K
       refine norm_ (a' := ?_) ?_ ?_
       rotate_left
       ·show Act.put _ (some 39) _ = _
        simp only [Act.put, List.setIfInBounds_toArray, List.set_cons_zero, List.set_cons_succ, i64_w, i32_w]
        rfl
       refine one_ (i := 23) (N := some 40) (mk_ 24 1) rfl rfl (one_of HT_.out (by kernel_rfl)) (by decide) (fun K hK => ?_)
       refine Kd.R_append_step k40 (w0 := w) w.heap.size (by rfl) (.tmp 17) (.tmp 39) 22 40 (.agg #[(.int .i64 0), (.int .u64 0), (.int .i64 0)]) 24 rfl Try.underlying22 info40 rfl (by decide) (by omega) u3 x3_1 (⟨wrap64 (Int.tmod (IntKind.u64.wrap ((rd_T40 l0 x4_1).f0)) 64), Int.tmod ((rd_T40 l0 x4_1).f1) 18446744073709551615, Int.tmod ((rd_T40 l0 x4_1).f2) 1000⟩ : S40) [.int .i64 (wrap64 (Int.tmod (IntKind.u64.wrap ((rd_T40 l0 x4_1).f0)) 64)), .int .u64 (Int.tmod ((rd_T40 l0 x4_1).f1) 18446744073709551615), .int .i64 (Int.tmod ((rd_T40 l0 x4_1).f2) 1000)] (fun _ => True) (fun _ => False) rfl rfl ?aP (fun _ hk => hk.elim) ?aF ?aO ?aB ?aS ?aL ?_
       (case aP => exact k40_mkM _ _ _ (⟨wrap64 (Int.tmod (IntKind.u64.wrap ((rd_T40 l0 x4_1).f0)) 64), Int.tmod ((rd_T40 l0 x4_1).f1) 18446744073709551615, Int.tmod ((rd_T40 l0 x4_1).f2) 1000⟩ : S40))
       (case aB => exact (by repeat (first | (with_reducible first | exact HB.out | apply below_alloc | apply pw_below_drewN | apply below_drew1) | exact HB.out)))
       (case aF => exact (fun _ _ => trivial))
       (case aO => exact (by (with_reducible repeat (first | apply Kd.R_alloc | apply Kd.R_drewN | apply Kd.R_drew)); exact HO_3.out))
       (case aS => exact (below_size (by repeat (first | (with_reducible first | exact HB.out | apply below_alloc | apply pw_below_drewN | apply below_drew1) | exact HB.out))))
       (case aL => have := LMc5.out; omega)
       intro v299 w7 ho hb hg hat
       rw [← Ny298.out] at ho
       have n0_ := Aside0.mk (hb)
       have n1_ := Aside0.mk (ho)
       clear HB
       clear HO_3
       have HB := n0_
       have HO300 := n1_
       clear n0_ n1_
       clear ho hb hg hat
       refine hK.out _ _ ⟨((HB.out.cell (World.block_lt_of_cell? w _ hw295_0)).trans hw295_0), ((HB.out.cell (World.block_lt_of_cell? w _ hw295_1)).trans hw295_1), ((HB.out.cell (World.block_lt_of_cell? w _ hw295_2)).trans hw295_2), ((HB.out.cell (World.block_lt_of_cell? w _ hw296_0)).trans hw296_0), ((HB.out.cell (World.block_lt_of_cell? w _ hw296_1)).trans hw296_1), ((HB.out.cell (World.block_lt_of_cell? w _ hw296_2)).trans hw296_2), ((HB.out.cell (World.block_lt_of_cell? w _ hw297_0)).trans hw297_0), ((HB.out.cell (World.block_lt_of_cell? w _ hw297_1)).trans hw297_1), ((HB.out.cell (World.block_lt_of_cell? w _ hw297_2)).trans hw297_2)⟩ (fun hHeld => ?_)
       clear hK K
       refine norm_ (a' := ?_) ?_ ?_
       rotate_left
       ·show Act.put _ (some 40) _ = _
        simp only [Act.put, List.setIfInBounds_toArray, List.set_cons_zero, List.set_cons_succ, i64_w, i32_w]
        rfl
       refine pv_ 24 3 (mk_ 25 0) HT_ ?_
       refine done_ (done_of HT_.out (by kernel_rfl)) ?_
       try go_wp2
       go_roundg k1
       case measure => have := HK1.out; omega
       case rel => exact ⟨(y298), (wrap64 (x4_1 + 1)), (by first | rfl | (simp; done) | (simp [*]; done)), H', ⟨by have := HK1.out; omega⟩, ⟨by (with_reducible repeat (first | apply Kd.R_alloc | apply Kd.R_drewN | apply Kd.R_drew)); exact HO300.out⟩, ⟨by repeat (first | (with_reducible first | exact HB.out | apply below_alloc | apply pw_below_drewN | apply below_drew1) | exact HB.out)⟩⟩
      ·rw [if_neg c5] at H
       exact absurd H (by simp)
     ·rw [if_neg c4] at H
      exact absurd H (by simp)
    ·rw [if_neg c3] at H
     have c3b0 : decide (x4_1 < 12) = false := decide_eq_false c3
     clear c3
     replace H := Option.bind_eq_some_iff.mp H
     obtain ⟨⟨t301, t302⟩, A80, H⟩ := H
     replace H : (some t301) = some r := H
     have A8 := Aside0.mk A80
     clear A80
     obtain rfl := Option.some.inj H
     obtain ⟨Ao9, co9, eo9⟩ := Kd.R_slice HO_3.out
     subst eo9
     go_wp2_with (first | ((with_reducible refine gate_callee (f := 52) rfl ?_); refine goesL_ (some 43) rfl rfl Try.func52 (by kernel_rfl) rfl #[.slice Ao9 x3_1.length co9] rfl (by (try simp only [List.map_toArray, List.map_cons, List.map_nil]); first | done | rfl | (simp only [List.length_drop, List.length_take]; rfl)) ?_; (with_reducible refine (marchlandref03_sums.calls k1 _ _ x3_1 t301 t302 _ ?side1 ?side2 A8.out).mono ?_); (case side1 => repeat (first | exact (Kd.R_reads' HO_3.out).2.2 | (with_reducible refine Kd.C_alloc ?_ _) | (with_reducible refine Kd.C_drewN ?_ _) | (with_reducible refine Kd.C_drew ?_))); (case side2 => exact (Kd.R_reads' HO_3.out).2.1); rintro e w10 ⟨v303, rfl, ho0, hb⟩; refine ⟨_, rfl, ?_⟩; have n0_ := Aside0.mk (Kd.R_elder' (by (with_reducible repeat (first | apply Kd.R_alloc | apply Kd.R_drewN | apply Kd.R_drew)); exact HO_3.out) (Kd.R_base ho0) hb); have n1_ := Aside0.mk (Kd.R_lower (Kd.R_new' ho0 (Kd.R_lt (by (with_reducible repeat (first | apply Kd.R_alloc | apply Kd.R_drewN | apply Kd.R_drew)); exact HO_3.out))) (below_size (by repeat (first | (with_reducible first | exact HB.out | apply below_alloc | apply pw_below_drewN | apply below_drew1) | exact HB.out)))); have n2_ := Aside0.mk (below_step (by repeat (first | (with_reducible first | exact HB.out | apply below_alloc | apply pw_below_drewN | apply below_drew1) | exact HB.out)) hb); clear HO_3; clear HB; have HO_3 := n0_; have HO304 := n1_; have HB := n2_; clear n0_ n1_ n2_; (try clear hb); (try clear hb2); (try clear hk); (try clear hi); (try clear ho0)))
     go_ret
     exact ⟨_, by first | rfl | (simp [errW_none, errW_some] <;> rfl) | (simp [*, errW_none, errW_some] <;> rfl), by (with_reducible repeat (first | apply Kd.R_alloc | apply Kd.R_drewN | apply Kd.R_drew)); exact Kd.R_mono HO304.out (fun _ hk => trivial), by repeat (first | (with_reducible first | exact HB.out | apply below_alloc | apply pw_below_drewN | apply below_drew1) | exact HB.out)⟩
   ·rw [if_neg c2] at H
    have c2b0 : decide (x4_1 < (l0.length : Int)) = false := decide_eq_false c2
    clear c2
    replace H := Option.bind_eq_some_iff.mp H
    obtain ⟨⟨t305, t306⟩, A110, H⟩ := H
    replace H : (some t305) = some r := H
    have A11 := Aside0.mk A110
    clear A110
    obtain rfl := Option.some.inj H
    obtain ⟨Ao12, co12, eo12⟩ := Kd.R_slice HO_3.out
    subst eo12
    go_wp2_with (first | ((with_reducible refine gate_callee (f := 52) rfl ?_); refine goesL_ (some 43) rfl rfl Try.func52 (by kernel_rfl) rfl #[.slice Ao12 x3_1.length co12] rfl (by (try simp only [List.map_toArray, List.map_cons, List.map_nil]); first | done | rfl | (simp only [List.length_drop, List.length_take]; rfl)) ?_; (with_reducible refine (marchlandref03_sums.calls k1 _ _ x3_1 t305 t306 _ ?side1 ?side2 A11.out).mono ?_); (case side1 => repeat (first | exact (Kd.R_reads' HO_3.out).2.2 | (with_reducible refine Kd.C_alloc ?_ _) | (with_reducible refine Kd.C_drewN ?_ _) | (with_reducible refine Kd.C_drew ?_))); (case side2 => exact (Kd.R_reads' HO_3.out).2.1); rintro e w13 ⟨v307, rfl, ho0, hb⟩; refine ⟨_, rfl, ?_⟩; have n0_ := Aside0.mk (Kd.R_elder' (by (with_reducible repeat (first | apply Kd.R_alloc | apply Kd.R_drewN | apply Kd.R_drew)); exact HO_3.out) (Kd.R_base ho0) hb); have n1_ := Aside0.mk (Kd.R_lower (Kd.R_new' ho0 (Kd.R_lt (by (with_reducible repeat (first | apply Kd.R_alloc | apply Kd.R_drewN | apply Kd.R_drew)); exact HO_3.out))) (below_size (by repeat (first | (with_reducible first | exact HB.out | apply below_alloc | apply pw_below_drewN | apply below_drew1) | exact HB.out)))); have n2_ := Aside0.mk (below_step (by repeat (first | (with_reducible first | exact HB.out | apply below_alloc | apply pw_below_drewN | apply below_drew1) | exact HB.out)) hb); clear HO_3; clear HB; have HO_3 := n0_; have HO308 := n1_; have HB := n2_; clear n0_ n1_ n2_; (try clear hb); (try clear hb2); (try clear hk); (try clear hi); (try clear ho0)))
    go_ret
    exact ⟨_, by first | rfl | (simp [errW_none, errW_some] <;> rfl) | (simp [*, errW_none, errW_some] <;> rfl), by (with_reducible repeat (first | apply Kd.R_alloc | apply Kd.R_drewN | apply Kd.R_drew)); exact Kd.R_mono HO308.out (fun _ hk => trivial), by repeat (first | (with_reducible first | exact HB.out | apply below_alloc | apply pw_below_drewN | apply below_drew1) | exact HB.out)⟩

end Go.Proofs.Ytgeldmhgbnamcaa.P
end
section
-- Printed by the session's own turn of the print (wip/tools/print2.sh): some callees are proved by hand.
namespace Go.Proofs.Ytgeldmhgbnamcaa.P
open Go.RowKit Go.Proofs.YtgeldmhgbnamcaaW.PrintWords Go.Proofs.YtgeldmhgbnamcaaW.PrintLast Go.Proofs.YtgeldmhgbnamcaaW.PrintMore
attribute [local go_sem] max2_int min2_int max_two min_two max_three min_three max_four min_four   -- for this text's walks alone
set_option linter.unusedVariables false
set_option linter.unusedSimpArgs false
theorem eqA50 (d : Nat) (w : World) (x0 y0 : Int) (x1 y1 : Int) (x2 y2 : Int) :
  (Op.equalIn (d + 2) 50 (.agg #[.int .i64 x0, .int .u64 x1, .int .i64 x2]) (.agg #[.int .i64 y0, .int .u64 y1, .int .i64 y2])).run Try.prog w = .ok (x0 == y0 && (x1 == y1 && (x2 == y2))) w := by
 refine eqA_of Try.underlying50 (by kernel_rfl) ?_
 refine eqf_cons (by rfl) (by go_simp; rfl) (by go_simp; rfl) (by go_simp) ?_
 refine eqf_cons (by rfl) (by go_simp; rfl) (by go_simp; rfl) (by go_simp) ?_
 exact eqf_last (by rfl) (by go_simp; rfl) (by go_simp; rfl) (by go_simp)
end Go.Proofs.Ytgeldmhgbnamcaa.P
end
section
/- Plain laws of batches, fifth part: Of, Same, Fix. -/
namespace Go.Proofs.Ytgeldmhgbnamcaa.Pure
open Go.RowKit Go.Proofs.Ytgeldmhgbnamcaa.P Go.Proofs.YtgeldmhgbnamcaaW.PrintWords Go.Proofs.YtgeldmhgbnamcaaW.PrintLast
set_option linter.unusedVariables false
set_option linter.unusedSimpArgs false
/-- what a batch holds at a key -/
def ofv (X : List S50) (q : S50) : Int := match X.find? (fun y => decide (ke y q)) with
 | some y => y.f2
 | none => 0
theorem mid {i j : Nat} (h : i < j) (hj : j ≤ 4000000000000000000) : wrap64 ((IntKind.u64.wrap (wrap64 ((i : Int) + (j : Int)))) / 2) = ((i + (j - i) / 2 : Nat) : Int) := by
 have e : wrap64 ((i : Int) + (j : Int)) = ((i + j : Nat) : Int) := by unfold wrap64; omega
 have e2 : IntKind.u64.wrap ((i + j : Nat) : Int) = ((i + j : Nat) : Int) := by simp [IntKind.wrap, IntKind.bits, IntKind.signed]; omega
 rw [e, e2]; unfold wrap64; omega
theorem find_l0 (X : List S50) (q : S50) (hs : Str X) (hl : X.length ≤ 4000000000000000000) : ∀ (n : Nat) (A M C : List S50), M.length ≤ n → X = A ++ M ++ C → (∀ a ∈ A, kl a q) → (∀ c ∈ C, ¬ kl c q) →
  ∃ A' C' : List S50, X = A' ++ C' ∧ (∀ a ∈ A', kl a q) ∧ (∀ c ∈ C', ¬ kl c q) ∧ Ev (fun k => batch_Change_55.l0 k X (X.length : Int) (A.length : Int) ((A.length + M.length : Nat) : Int) q.f0 q.f1 q.f2) ((A'.length : Int), match C' with | [] => false | c :: _ => decide (ke c q)) := by
 intro n
 induction n with
 | zero =>
  intro A M C hM e hA hC
  obtain rfl : M = [] := List.eq_nil_of_length_eq_zero (by omega)
  rw [List.append_nil] at e
  refine ⟨A, C, e, hA, hC, ?_⟩
  cases C with
  | nil =>
   refine ⟨1, fun k hk => ?_⟩
   obtain ⟨k, rfl⟩ : ∃ m, k = m + 1 := ⟨k - 1, by omega⟩
   show batch_Change_55.l0 (k + 1) _ _ _ _ _ _ _ = _
   rw [batch_Change_55.l0, if_neg (by simp), if_neg (by rw [e]; simp)]
  | cons c C =>
   obtain ⟨K, o⟩ := order_at c q
   refine ⟨K + 1, fun k hk => ?_⟩
   obtain ⟨k, rfl⟩ : ∃ m, k = m + 1 := ⟨k - 1, by omega⟩
   have o := o k (by omega); dsimp only at o
   have ll : X.length = A.length + (C.length + 1) := by rw [e]; simp
   have e1 : rd_T50 X (A.length : Int) = c := by rw [e]; exact rd5 _ _ _ rfl
   show batch_Change_55.l0 (k + 1) _ _ _ _ _ _ _ = _
   rw [batch_Change_55.l0, if_neg (by simp), if_pos (by omega), if_pos (by omega), if_pos (by omega), e1, o, Option.bind_some]
   by_cases hk : ke c q
   ·have : ordv c q = 0 := ordv_zero.2 hk
    simp [this, hk]
   ·have : ¬ ordv c q = 0 := fun h => hk (ordv_zero.1 h)
    simp [this, hk]
 | succ n ih =>
  intro A M C hM e hA hC
  by_cases hm : M.length ≤ n
  ·exact ih A M C hm e hA hC
  have hp : M.length / 2 < M.length := by omega
  have ed : M = M.take (M.length / 2) ++ M[M.length / 2] :: M.drop (M.length / 2 + 1) := by rw [List.getElem_cons_drop]; simp
  have l1 : (M.take (M.length / 2)).length = M.length / 2 := by simp; omega
  generalize M.take (M.length / 2) = M1 at *
  generalize M[M.length / 2] = m at *
  generalize M.drop (M.length / 2 + 1) = M2 at *
  have lM : M.length = M1.length + (M2.length + 1) := by rw [ed]; simp
  have ll : X.length = A.length + M.length + C.length := by rw [e]; simp only [List.length_append]
  have hmid := mid (i := A.length) (j := A.length + M.length) (by omega) (by omega)
  have ehm : A.length + (A.length + M.length - A.length) / 2 = A.length + M1.length := by omega
  rw [ehm] at hmid
  have eX : X = (A ++ M1) ++ m :: (M2 ++ C) := by rw [e, ed]; simp
  have e1 : rd_T50 X ((A.length + M1.length : Nat) : Int) = m := by rw [eX]; exact rd5 _ _ _ (by simp)
  obtain ⟨K, o⟩ := order_at m q
  have hs' : Str ((A ++ M1) ++ m :: (M2 ++ C)) := eX ▸ hs
  obtain ⟨p1, p2, p3⟩ := List.pairwise_append.1 hs'
  by_cases hk : kl m q
  ·obtain ⟨A', C', x1, x2, x3, K1, h1⟩ := ih (A ++ M1 ++ [m]) M2 C (by omega) (by rw [eX]; simp)
    (fun a ha => by
     rcases List.mem_append.1 ha with h | h
     ·exact kl_trans (p3 a h m (by simp)) hk
     ·simp at h; subst h; exact hk) hC
   refine ⟨A', C', x1, x2, x3, K + K1 + 1, fun k hk' => ?_⟩
   obtain ⟨k, rfl⟩ : ∃ m, k = m + 1 := ⟨k - 1, by omega⟩
   have o := o k (by omega); dsimp only at o
   have h1 := h1 k (by omega); dsimp only at h1
   have ea : wrap64 (((A.length + M1.length : Nat) : Int) + 1) = ((A ++ M1 ++ [m]).length : Int) := by rw [w64s (by omega)]; simp only [List.length_append, List.length_singleton]
   have eb : (((A ++ M1 ++ [m]).length + M2.length : Nat) : Int) = ((A.length + M.length : Nat) : Int) := by simp; omega
   show batch_Change_55.l0 (k + 1) _ _ _ _ _ _ _ = _
   rw [batch_Change_55.l0, if_pos (by omega), hmid, if_pos (by omega), if_pos (by omega), e1, o, Option.bind_some, if_pos (ordv_neg.2 hk), ea, ← eb]
   exact h1
  ·obtain ⟨A', C', x1, x2, x3, K1, h1⟩ := ih A M1 (m :: (M2 ++ C)) (by omega) (by rw [eX]) hA
    (fun c hc => by
     rcases List.mem_cons.1 hc with rfl | h
     ·exact hk
     ·have := (List.pairwise_cons.1 p2).1 c h; intro hk2; exact hk (kl_trans this hk2))
   refine ⟨A', C', x1, x2, x3, K + K1 + 1, fun k hk' => ?_⟩
   obtain ⟨k, rfl⟩ : ∃ m, k = m + 1 := ⟨k - 1, by omega⟩
   have o := o k (by omega); dsimp only at o
   have h1 := h1 k (by omega); dsimp only at h1
   show batch_Change_55.l0 (k + 1) _ _ _ _ _ _ _ = _
   rw [batch_Change_55.l0, if_pos (by omega), hmid, if_pos (by omega), if_pos (by omega), e1, o, Option.bind_some, if_neg (fun h => hk (ordv_neg.1 h))]
   exact h1
theorem of_ev (X : List S50) (hs : Str X) (hl : X.length ≤ 4000000000000000000) (a b : Int) : Ev (fun k => batch_Of.f k X a b) (ofv X ⟨a, b, 0⟩) := by
 obtain ⟨A, C, e, hA, hC, K, h⟩ := find_l0 X ⟨a, b, 0⟩ hs hl X.length [] X [] (Nat.le_refl _) (by simp) (fun _ h => by cases h) (fun _ h => by cases h)
 have nA : ∀ y ∈ A, ¬ ke y ⟨a, b, 0⟩ := fun y hy h => by have := hA y hy; unfold kl ke at *; omega
 have fA : A.find? (fun y => decide (ke y ⟨a, b, 0⟩)) = none := List.find?_eq_none.2 (fun y hy => by simpa using nA y hy)
 refine ⟨K, fun k hk => ?_⟩
 have h := h k hk
 simp only [List.length_nil, Nat.zero_add] at h
 have h : batch_Change_55.l0 k X (X.length : Int) 0 (X.length : Int) a b 0 = _ := h
 show batch_Of.f k X a b = _
 rw [batch_Of.f, batch_Change_55.f, h, Option.bind_some]
 cases C with
 | nil =>
  have : ofv X ⟨a, b, 0⟩ = 0 := by unfold ofv; rw [e, List.find?_append, fA]; rfl
  simp [this]
 | cons c C =>
  have ll : X.length = A.length + (C.length + 1) := by rw [e]; simp
  have e1 : rd_T50 X (A.length : Int) = c := by rw [e]; exact rd5 _ _ _ rfl
  by_cases hk : ke c ⟨a, b, 0⟩
  ·have : ofv X ⟨a, b, 0⟩ = c.f2 := by unfold ofv; rw [e, List.find?_append, fA]; simp [hk]
   dsimp only
   rw [if_pos (decide_eq_true hk), if_pos (by omega), if_pos (by omega), e1, this]
  ·have : ofv X ⟨a, b, 0⟩ = 0 := by
    have fC : (c :: C).find? (fun y => decide (ke y ⟨a, b, 0⟩)) = none := List.find?_eq_none.2 (fun y hy => by
     have hs' : Str (A ++ c :: C) := e ▸ hs
     have p2 := (List.pairwise_append.1 hs').2.1
     rcases List.mem_cons.1 hy with rfl | hy
     ·simpa using hk
     ·have a1 := (List.pairwise_cons.1 p2).1 y hy
      have a2 := hC c (by simp)
      have : ¬ ke y ⟨a, b, 0⟩ := by unfold kl ke at *; omega
      simpa using this)
    unfold ofv; rw [e, List.find?_append, fA, fC]; rfl
   dsimp only
   rw [if_neg (fun h => hk (of_decide_eq_true h)), this]
theorem ofv_of_mem {X : List S50} (hs : Str X) {y : S50} (hy : y ∈ X) (b : Int) : ofv X ⟨y.f0, y.f1, b⟩ = y.f2 := by
 unfold ofv
 cases h : X.find? (fun z => decide (ke z ⟨y.f0, y.f1, b⟩)) with
 | none => have := List.find?_eq_none.1 h y hy; simp [ke] at this
 | some z =>
  have hz := List.mem_of_find?_eq_some h
  have kz : ke z ⟨y.f0, y.f1, b⟩ := by simpa using List.find?_some h
  have : z = y := by
   obtain ⟨A, B, rfl⟩ := List.append_of_mem hy
   obtain ⟨_, p2, p3⟩ := List.pairwise_append.1 hs
   rcases List.mem_append.1 hz with hz | hz
   ·have := p3 z hz y (by simp); unfold kl ke at *; simp at kz; omega
   ·rcases List.mem_cons.1 hz with rfl | hz
    ·rfl
    ·have := (List.pairwise_cons.1 p2).1 z hz; unfold kl ke at *; simp at kz; omega
  simp [this]
/-! ### Fix -/
def fix1 (x : S40) : S50 := ⟨wrap64 (Int.tmod (IntKind.u64.wrap x.f0) 64), Int.tmod x.f1 18446744073709551615, Int.tmod x.f2 1000⟩
def sumk (l : List S50) : List S50 := if good (tot l) = true then fin (tot l) else []
theorem fix_l0 (X : List S40) : ∀ (r pre : List S40), X = pre ++ r → pre.length ≤ 12 → Ev (fun k => marchlandref03_Fix.l0 k X ((pre.map fix1).map v) (pre.length : Int)) ((sumk ((X.take 12).map fix1)).map v) := by
 have fin_ : ∀ pre : List S40, pre.length ≤ 12 → Ev (fun k => (marchlandref03_sums.f k ((pre.map fix1).map v)).bind fun b => some b.1) ((sumk (pre.map fix1)).map v) := by
  intro pre h
  have := Ev.bind (sums_ev (pre.map fix1) (by unfold Short; simp; omega)) (Ev.now _) (f := fun _ b => some b.1)
  unfold sumk
  split
  ·rename_i g; rw [if_pos g] at this; exact this
  ·rename_i g; rw [if_neg g] at this; exact this
 intro r
 induction r with
 | nil =>
  intro pre e hp
  obtain ⟨K, h⟩ := fin_ pre hp
  refine ⟨K + 1, fun k hk => ?_⟩
  obtain ⟨k, rfl⟩ : ∃ m, k = m + 1 := ⟨k - 1, by omega⟩
  have h := h k (by omega); dsimp only at h
  have e' : X.take 12 = pre := by rw [e, List.append_nil]; exact List.take_of_length_le hp
  show marchlandref03_Fix.l0 (k + 1) _ _ _ = _
  rw [marchlandref03_Fix.l0, if_neg (by subst e; simp), e']
  exact h
 | cons x r ih =>
  intro pre e hp
  have ll : X.length = pre.length + (r.length + 1) := by rw [e]; simp
  by_cases h12 : pre.length = 12
  ·obtain ⟨K, h⟩ := fin_ pre hp
   refine ⟨K + 1, fun k hk => ?_⟩
   obtain ⟨k, rfl⟩ : ∃ m, k = m + 1 := ⟨k - 1, by omega⟩
   have h := h k (by omega); dsimp only at h
   have e' : X.take 12 = pre := by rw [e, ← h12]; simp
   show marchlandref03_Fix.l0 (k + 1) _ _ _ = _
   rw [marchlandref03_Fix.l0, if_pos (by omega), if_neg (by omega), e']
   exact h
  ·obtain ⟨K, h⟩ := ih (pre ++ [x]) (by simp [e]) (by simp; omega)
   refine ⟨K + 1, fun k hk => ?_⟩
   obtain ⟨k, rfl⟩ : ∃ m, k = m + 1 := ⟨k - 1, by omega⟩
   have h := h k (by omega); dsimp only at h
   have e1 : rd_T40 X (pre.length : Int) = x := by rw [e]; exact rd4 _ _ _ rfl
   have ew : wrap64 ((pre.length : Int) + 1) = ((pre ++ [x]).length : Int) := by rw [w64s (by omega)]; simp
   have em : (pre.map fix1).map v ++ [(⟨wrap64 (Int.tmod (IntKind.u64.wrap x.f0) 64), Int.tmod x.f1 18446744073709551615, Int.tmod x.f2 1000⟩ : S40)] = ((pre ++ [x]).map fix1).map v := by simp [v, fix1]
   show marchlandref03_Fix.l0 (k + 1) _ _ _ = _
   rw [marchlandref03_Fix.l0, if_pos (by omega), if_pos (by omega), if_pos (by omega), if_pos (by simp; omega), e1, em, ew]
   exact h
theorem fix_ev (X : List S40) : Ev (fun k => marchlandref03_Fix.f k X) ((sumk ((X.take 12).map fix1)).map v) := fix_l0 X X [] rfl (by simp)
theorem sumk_str (l : List S50) : Str (sumk l) := by unfold sumk; split; exact (tot_str l).sublist List.filter_sublist; exact List.Pairwise.nil
theorem sumk_len (l : List S50) : (sumk l).length ≤ l.length := by
 unfold sumk; split
 ·have t1 := fin_len (tot l); have t2 := tot_len l; omega
 ·simp
theorem sumk_nz {l : List S50} {x : S50} (h : x ∈ sumk l) : x.f2 ≠ 0 := by
 unfold sumk at h; split at h
 ·exact of_decide_eq_true (List.mem_filter.1 h).2
 ·cases h
theorem wrongv_key {x : S50} (h0 : 0 ≤ x.f0 ∧ x.f0 < 64) (h1 : x.f1 ≠ 18446744073709551615) (h2 : wi x.f2) : wrongv x = 0 := by unfold wrongv; rw [if_neg (by omega), if_neg h1, if_pos h2]
theorem fix1_key (x : S40) (h : wfC x) : (0 ≤ (fix1 x).f0 ∧ (fix1 x).f0 < 64) ∧ (fix1 x).f1 ≠ 18446744073709551615 := by
 obtain ⟨_, ⟨a, b⟩, _⟩ := h
 have hp : 0 ≤ IntKind.u64.wrap x.f0 := by simp [IntKind.wrap, IntKind.bits, IntKind.signed]; omega
 have h1 := Int.tmod_lt_of_pos (IntKind.u64.wrap x.f0) (b := 64) (by omega)
 have h2 := Int.tmod_nonneg (b := 64) hp (a := IntKind.u64.wrap x.f0)
 have h3 := Int.tmod_lt_of_pos x.f1 (b := 18446744073709551615) (by omega)
 simp only [fix1]
 generalize Int.tmod (IntKind.u64.wrap x.f0) 64 = z at *
 have : wrap64 z = z := by unfold wrap64; omega
 rw [this]
 exact ⟨⟨h2, h1⟩, by omega⟩
theorem sumk_right {l : List S50} (h : ∀ x ∈ l, (0 ≤ x.f0 ∧ x.f0 < 64) ∧ x.f1 ≠ 18446744073709551615) : ∀ x ∈ sumk l, wrongv x = 0 := by
 intro x hx
 unfold sumk at hx; split at hx
 ·rename_i g
  obtain ⟨hm, hz⟩ := List.mem_filter.1 hx
  obtain ⟨y, hy, ek⟩ := tot_mem hm
  have hy := h y hy
  exact wrongv_key (by rw [ek.1]; exact hy.1) (by rw [ek.2]; exact hy.2) (of_decide_eq_true (List.all_eq_true.1 g x hm))
 ·cases hx
/-- a batch that is right -/
def Rt (X : List S50) : Prop := Str X ∧ (∀ x ∈ X, wrongv x = 0 ∧ x.f2 ≠ 0)
theorem sumk_rt {l : List S50} (h : ∀ x ∈ l, (0 ≤ x.f0 ∧ x.f0 < 64) ∧ x.f1 ≠ 18446744073709551615) : Rt (sumk l) := ⟨sumk_str l, fun x hx => ⟨sumk_right h x hx, sumk_nz hx⟩⟩
end Go.Proofs.Ytgeldmhgbnamcaa.Pure
end
section
-- Printed by the session's own turn of the print (wip/tools/print2.sh): some callees are proved by hand.
namespace Go.Proofs.Ytgeldmhgbnamcaa.P
open Go.RowKit Go.Proofs.YtgeldmhgbnamcaaW.PrintWords Go.Proofs.YtgeldmhgbnamcaaW.PrintLast Go.Proofs.YtgeldmhgbnamcaaW.PrintMore
attribute [local go_sem] max2_int min2_int max_two min_two max_three min_three max_four min_four   -- for this text's walks alone
theorem cell_set_twice (w : World) (a : Addr) (x v : Value) (h : (w.cell? a).isSome = true) : ((w.setCell a x).setCell a v).cell? a = some v :=
 World.cell?_setCell_same' _ _ _ (by rw [World.cell?_setCell_same' _ _ _ h]; rfl)
attribute [local go_sem] cell_set_twice
set_option linter.unusedVariables false
set_option linter.unusedSimpArgs false

/-! ### marchlandref04_Fix: function 26 -/
def marchlandref04_Fix.l0 : Nat → List (S40) → List (S40) → Int → Option ((List (S40)))
 | 0, _, _, _ => none
 | k + 1, x0, x3, x4 => if x4 < (x0.length : Int) then (if x4 < 12 then (if 0 ≤ x4 then (if x3.length < 5864062014805 then (marchlandref04_Fix.l0 k x0 (x3 ++ [(⟨(rd_T40 x0 x4).f0, (rd_T40 x0 x4).f1, wrap64 (1 + (wrap64 (Int.tmod (IntKind.u64.wrap ((rd_T40 x0 x4).f2)) 5)))⟩ : S40)]) (wrap64 (x4 + 1))) else (none)) else (none)) else ((marchlandref03_Fix.f k x3).bind fun t360 => (some t360))) else ((marchlandref03_Fix.f k x3).bind fun t363 => (some t363))
def marchlandref04_Fix.f (k : Nat) (l0 : List (S40)) : Option ((List (S40))) := marchlandref04_Fix.l0 k l0 ([] : List (S40)) 0
theorem marchlandref04_Fix.mono_l : ∀ k, (∀ y0 y1 y2, LeO (marchlandref04_Fix.l0 k y0 y1 y2) (marchlandref04_Fix.l0 (k + 1) y0 y1 y2))
 | 0 => fun _ _ _ r h => by simp [marchlandref04_Fix.l0] at h
 | k + 1 => by
  have ih0 := marchlandref04_Fix.mono_l k
  ·intro y0 y1 y2
   unfold marchlandref04_Fix.l0
   repeat' first
   | (with_reducible exact ih0 _ _ _)
   | (with_reducible exact marchlandref03_Fix.mono _ _)
   | (with_reducible exact LeO.refl _)
   | (with_reducible exact LeO.none _)
   | (with_reducible refine LeO.ite ?_ ?_)
   | (with_reducible refine LeO.bind ?_ (fun _ => ?_))
   | exact ih0 _ _ _
   | exact marchlandref03_Fix.mono _ _
   | exact LeO.none _
   | refine LeO.ite ?_ ?_
   | refine LeO.bind ?_ (fun _ => ?_)
theorem marchlandref04_Fix.mono : ∀ a0 k, LeO (marchlandref04_Fix.f k a0) (marchlandref04_Fix.f (k + 1) a0) := by
 intro a0 k
 have ih0 := marchlandref04_Fix.mono_l k
 unfold marchlandref04_Fix.f
 repeat' first
   | (with_reducible exact ih0 _ _ _)
   | (with_reducible exact marchlandref03_Fix.mono _ _)
   | (with_reducible exact LeO.refl _)
   | (with_reducible exact LeO.none _)
   | (with_reducible refine LeO.ite ?_ ?_)
   | (with_reducible refine LeO.bind ?_ (fun _ => ?_))
   | exact ih0 _ _ _
   | exact marchlandref03_Fix.mono _ _
   | exact LeO.none _
   | refine LeO.ite ?_ ?_
   | refine LeO.bind ?_ (fun _ => ?_)
set_option maxHeartbeats 8000000 in
set_option maxRecDepth 100000 in
theorem marchlandref04_Fix.calls (k : Nat) (A0 : Option Addr) (c0 : Nat) (l0 : List (S40)) (r : List (S40)) (w : World) (hr0 : Kd.C k40 w A0 l0.length l0) (hc0 : l0.length ≤ c0) (h : marchlandref04_Fix.f k l0 = some r) :
  Calls Try.prog 26 #[.slice A0 l0.length c0] w fun e w' => ∃ v0_ : Value, e = .returned (v0_) ∧ Kd.R k40 40 w' w.heap.size (fun _ => True) v0_ r ∧ Below w.heap.size w w' := by
 have hu40 := Try.underlying40
 have HR0 := Aside0.mk hr0
 have HC0 := Aside0.mk hc0
 clear hr0 hc0
 have HB := Aside0.mk (Below.refl w.heap.size w)
 have H : (marchlandref04_Fix.l0 k l0 ([] : List (S40)) 0) = some r := h
 clear h
 have H' := Aside0.mk H
 clear H
 go_enter Try.func26, Try.ntmps26
 go_wp2
 go_loopg [3, 4] k (fun kq v3 v4 w' => ∃ (x3_1 : List (S40)) (x4_1 : Int), v4 = .int .i64 x4_1 ∧ Aside0 (marchlandref04_Fix.l0 kq l0 x3_1 x4_1 = some r) ∧ Aside0 (kq ≤ k) ∧ Aside0 (Kd.R k40 40 w' w.heap.size (fun _ => True) v3 x3_1) ∧ Aside0 (Below w.heap.size w w'))
 case atStart => exact ⟨(([] : List (S40))), (0), (by first | rfl | (simp; done) | (simp [*]; done)), H', ⟨Nat.le_refl _⟩, ⟨by first | exact Kd.R_nil _ _ _ _ _ | exact Kd.N_nil _ _ _ _ _ | exact Kd.V_nil _ _ _ _ _ | exact Kd.Q_nil _ _ _ _ _ | exact Kd.S_nil _ _ _ _ _⟩, ⟨by repeat (first | (with_reducible first | exact HB.out | apply below_alloc | apply pw_below_drewN | apply below_drew1) | exact HB.out)⟩⟩
 case round =>
  clear H'
  obtain ⟨x3_1, x4_1, rfl, HA, HK1, HO_3, HB⟩ := hrel
  cases gk with
  | zero => exact absurd HA.out (by simp [marchlandref04_Fix.l0])
  | succ k1 =>
   have H := HA.out
   clear HA
   simp only [marchlandref04_Fix.l0] at H
   by_cases c2 : x4_1 < (l0.length : Int)
   ·rw [if_pos c2] at H
    have c2b0 : decide (x4_1 < (l0.length : Int)) = true := decide_eq_true c2
    clear c2
    by_cases c3 : x4_1 < 12
    ·rw [if_pos c3] at H
     have c3b0 : decide (x4_1 < 12) = true := decide_eq_true c3
     clear c3
     by_cases c4 : 0 ≤ x4_1
     ·rw [if_pos c4] at H
      have c4b0 : decide (0 ≤ x4_1) = true := decide_eq_true c4
      clear c4
      by_cases c5 : x3_1.length < 5864062014805
      ·rw [if_pos c5] at H
       have LMc5 := Aside0.mk c5
       clear c5
       obtain ⟨y357, hy357⟩ : ∃ y_ : List (S40), y_ = (x3_1 ++ [(⟨(rd_T40 l0 x4_1).f0, (rd_T40 l0 x4_1).f1, wrap64 (1 + (wrap64 (Int.tmod (IntKind.u64.wrap ((rd_T40 l0 x4_1).f2)) 5)))⟩ : S40)]) := ⟨_, rfl⟩
       replace H : (marchlandref04_Fix.l0 k1 l0 y357 (wrap64 (x4_1 + 1))) = some r := by first | (rw [hy357]; with_reducible exact H) | (have H2_ := (Option.bind_some _ _).symm.trans H; rw [hy357]; with_reducible exact H2_) | (have H2_ := (Option.bind_some _ _).symm.trans H; with_reducible exact H2_) | with_reducible exact H | (rw [hy357]; exact H) | exact H
       have Ny357 := Aside0.mk hy357
       clear hy357
       have H' := Aside0.mk H
       clear H
       have p355 : 0 ≤ (x4_1 : Int) := of_decide_eq_true (by first | (with_reducible assumption) | assumption)
       have q355 : x4_1 < (l0.length : Int) := of_decide_eq_true (by first | (with_reducible assumption) | assumption)
       obtain ⟨ad355, e355, hx355_0, hx355_1, hx355_2⟩ := at_T40 HR0.out x4_1 p355 q355
       cases e355
       replace hx355_0 := (HB.out.cell (World.block_lt_of_cell? w _ hx355_0)).trans hx355_0
       replace hx355_1 := (HB.out.cell (World.block_lt_of_cell? w _ hx355_1)).trans hx355_1
       replace hx355_2 := (HB.out.cell (World.block_lt_of_cell? w _ hx355_2)).trans hx355_2
       replace p355 := eq_true p355
       replace q355 := eq_true q355
       go_wp2_with (first | ((with_reducible refine gate_dst (N := 5) rfl ?_); refine box_event ?hg (N := 5) ?hd (cs := #[.int .i64 0, .int .u64 0, .int .i64 0]) (t := 40) ?hr ?_; (case hd => rfl); (case hg => rfl); (case hr => first | (go_simp; done) | (go_simp; rfl)); intro gb356 hg w6 hbox hb; have n0_ := Aside0.mk (Kd.R_below (Kd.R_elderB (by (with_reducible repeat (first | apply Kd.R_alloc | apply Kd.R_drewN | apply Kd.R_drew)); exact HO_3.out) gb356 (Nat.le_of_eq hg.symm)) hb); have n1_ := Aside0.mk (below_step (by repeat (first | (with_reducible first | exact HB.out | apply below_alloc | apply pw_below_drewN | apply below_drew1) | exact HB.out)) hb); have n2_ := Aside0.mk (hbox); have n3_ := Aside0.mk ((by rw [hg]; exact (below_size (by repeat (first | (with_reducible first | exact HB.out | apply below_alloc | apply pw_below_drewN | apply below_drew1) | exact HB.out))) : w.heap.size ≤ gb356)); have n4_ := Aside0.mk ((by rw [hg]; exact (below_size (by repeat (first | (with_reducible first | exact HB.out | apply below_alloc | apply pw_below_drewN | apply below_drew1) | exact HB.out))) : w.heap.size ≤ gb356)); clear HO_3; clear HB; have HO_3 := n0_; have HB := n1_; have BK356 := n2_; have GW356 := n3_; have GE356 := n4_; clear n0_ n1_ n2_ n3_ n4_; clear hb hbox hg; have hcz7_0 : w6.cell? ⟨gb356, 0, none⟩ = some (.int .i64 0) := (blk_cell BK356.out 0).trans rfl; have hcz7_1 : w6.cell? ⟨gb356, 1, none⟩ = some (.int .u64 0) := (blk_cell BK356.out 1).trans rfl; have hcz7_2 : w6.cell? ⟨gb356, 2, none⟩ = some (.int .i64 0) := (blk_cell BK356.out 2).trans rfl; have hfz7_0 := blk_frozen BK356.out 0; have hfz7_1 := blk_frozen BK356.out 1; have hfz7_2 := blk_frozen BK356.out 2) | ((with_reducible refine gate_builtin (b := .append) (xs := #[.tmp 27, .tmp 29]) rfl ?_); at_builtin; refine Kd.R_append k40 (w0 := w) w.heap.size rfl (.tmp 27) (.tmp 29) 22 40 (.agg #[(.int .i64 0), (.int .u64 0), (.int .i64 0)]) 24 rfl Try.underlying22 info40 rfl (by decide) (by omega) u3 x3_1 (⟨(rd_T40 l0 x4_1).f0, (rd_T40 l0 x4_1).f1, wrap64 (1 + (wrap64 (Int.tmod (IntKind.u64.wrap ((rd_T40 l0 x4_1).f2)) 5)))⟩ : S40) [.int .i64 ((rd_T40 l0 x4_1).f0), .int .u64 ((rd_T40 l0 x4_1).f1), .int .i64 (wrap64 (1 + (wrap64 (Int.tmod (IntKind.u64.wrap ((rd_T40 l0 x4_1).f2)) 5))))] (fun k_ => k_ ≠ gb356) (fun _ => False) rfl (by first | (go_simp; done) | (go_simp; rfl)) ?aP (fun _ hk => hk.elim) ?aF ?aO ?aB ?aS ?aL ?_; (case aP => exact k40_mkM _ _ _ (⟨(rd_T40 l0 x4_1).f0, (rd_T40 l0 x4_1).f1, wrap64 (1 + (wrap64 (Int.tmod (IntKind.u64.wrap ((rd_T40 l0 x4_1).f2)) 5)))⟩ : S40)); (case aB => exact (by repeat (first | (with_reducible first | exact HB.out | apply below_alloc | apply pw_below_drewN | apply below_drew1 | refine below_set ?_ GE356.out) | exact HB.out))); (case aF => exact (fun k_ hk => Kd.freshB (g := gb356) (o := .cells #[.int .i64 ((rd_T40 l0 x4_1).f0), .int .u64 ((rd_T40 l0 x4_1).f1), .int .i64 (wrap64 (1 + (wrap64 (Int.tmod (IntKind.u64.wrap ((rd_T40 l0 x4_1).f2)) 5))))] 40 (0, 0)) (by (with_reducible repeat (first | refine blk_drewN ?_ _ | refine blk_drew ?_ | refine blk_alloc ?_ _)); refine blk_put (cs := #[.int .i64 ((rd_T40 l0 x4_1).f0), .int .u64 ((rd_T40 l0 x4_1).f1), .int .i64 ((rd_T40 l0 x4_1).f2)]) ?_ 2 _ rfl; (with_reducible repeat (first | refine blk_drewN ?_ _ | refine blk_drew ?_ | refine blk_alloc ?_ _)); refine blk_put (cs := #[.int .i64 ((rd_T40 l0 x4_1).f0), .int .u64 ((rd_T40 l0 x4_1).f1), .int .i64 0]) ?_ 2 _ rfl; (with_reducible repeat (first | refine blk_drewN ?_ _ | refine blk_drew ?_ | refine blk_alloc ?_ _)); refine blk_put (cs := #[.int .i64 ((rd_T40 l0 x4_1).f0), .int .u64 0, .int .i64 0]) ?_ 1 _ rfl; (with_reducible repeat (first | refine blk_drewN ?_ _ | refine blk_drew ?_ | refine blk_alloc ?_ _)); refine blk_put (cs := #[.int .i64 0, .int .u64 0, .int .i64 0]) ?_ 0 _ rfl; (with_reducible repeat (first | refine blk_drewN ?_ _ | refine blk_drew ?_ | refine blk_alloc ?_ _)); exact BK356.out) k_ hk)); (case aO => exact (by (with_reducible repeat (first | apply Kd.R_alloc | apply Kd.R_drewN | apply Kd.R_drew)); exact Kd.R_mono (Kd.R_far (p := ⟨gb356, 2, none⟩) (Kd.R_far (p := ⟨gb356, 2, none⟩) (Kd.R_far (p := ⟨gb356, 1, none⟩) (Kd.R_far (p := ⟨gb356, 0, none⟩) (Kd.R_mono HO_3.out (fun k_ hk => (⟨hk, hk.2⟩ : _ ∧ k_ ≠ gb356))) (fun _ hk => hk.2) (.int .i64 ((rd_T40 l0 x4_1).f0))) (fun _ hk => hk.2) (.int .u64 ((rd_T40 l0 x4_1).f1))) (fun _ hk => hk.2) (.int .i64 ((rd_T40 l0 x4_1).f2))) (fun _ hk => hk.2) (.int .i64 (wrap64 (1 + (wrap64 (Int.tmod (IntKind.u64.wrap ((rd_T40 l0 x4_1).f2)) 5)))))) (fun _ hk => hk.1.2))); (case aS => exact (below_size (by repeat (first | (with_reducible first | exact HB.out | apply below_alloc | apply pw_below_drewN | apply below_drew1 | refine below_set ?_ GE356.out) | exact HB.out)))); (case aL => have := LMc5.out; omega); intro v358 w8 ho hb hg hat; rw [← Ny357.out] at ho; have n0_ := Aside0.mk (blk_grown (g := gb356) (o := .cells #[.int .i64 ((rd_T40 l0 x4_1).f0), .int .u64 ((rd_T40 l0 x4_1).f1), .int .i64 (wrap64 (1 + (wrap64 (Int.tmod (IntKind.u64.wrap ((rd_T40 l0 x4_1).f2)) 5))))] 40 (0, 0)) (by (with_reducible repeat (first | refine blk_drewN ?_ _ | refine blk_drew ?_ | refine blk_alloc ?_ _)); refine blk_put (cs := #[.int .i64 ((rd_T40 l0 x4_1).f0), .int .u64 ((rd_T40 l0 x4_1).f1), .int .i64 ((rd_T40 l0 x4_1).f2)]) ?_ 2 _ rfl; (with_reducible repeat (first | refine blk_drewN ?_ _ | refine blk_drew ?_ | refine blk_alloc ?_ _)); refine blk_put (cs := #[.int .i64 ((rd_T40 l0 x4_1).f0), .int .u64 ((rd_T40 l0 x4_1).f1), .int .i64 0]) ?_ 2 _ rfl; (with_reducible repeat (first | refine blk_drewN ?_ _ | refine blk_drew ?_ | refine blk_alloc ?_ _)); refine blk_put (cs := #[.int .i64 ((rd_T40 l0 x4_1).f0), .int .u64 0, .int .i64 0]) ?_ 1 _ rfl; (with_reducible repeat (first | refine blk_drewN ?_ _ | refine blk_drew ?_ | refine blk_alloc ?_ _)); refine blk_put (cs := #[.int .i64 0, .int .u64 0, .int .i64 0]) ?_ 0 _ rfl; (with_reducible repeat (first | refine blk_drewN ?_ _ | refine blk_drew ?_ | refine blk_alloc ?_ _)); exact BK356.out) hg (Kd.R_away HO_3.out (fun _ hk => hk.2))); have n1_ := Aside0.mk (hb); have n2_ := Aside0.mk (ho); clear BK356; clear HB; clear HO_3; have BK356 := n0_; have HB := n1_; have HO359 := n2_; clear n0_ n1_ n2_; clear ho hb hg hat))
       go_roundg k1
       case measure => have := HK1.out; omega
       case rel => exact ⟨(y357), (wrap64 (x4_1 + 1)), (by first | rfl | (simp; done) | (simp [*]; done)), H', ⟨by have := HK1.out; omega⟩, ⟨by (with_reducible repeat (first | apply Kd.R_alloc | apply Kd.R_drewN | apply Kd.R_drew)); exact Kd.R_mono HO359.out (fun _ hk => trivial)⟩, ⟨by repeat (first | (with_reducible first | exact HB.out | apply below_alloc | apply pw_below_drewN | apply below_drew1 | refine below_set ?_ GE356.out) | exact HB.out)⟩⟩
      ·rw [if_neg c5] at H
       exact absurd H (by simp)
     ·rw [if_neg c4] at H
      exact absurd H (by simp)
    ·rw [if_neg c3] at H
     have c3b0 : decide (x4_1 < 12) = false := decide_eq_false c3
     clear c3
     replace H := Option.bind_eq_some_iff.mp H
     obtain ⟨t360, A90, H⟩ := H
     replace H : (some t360) = some r := H
     have A9 := Aside0.mk A90
     clear A90
     obtain rfl := Option.some.inj H
     obtain ⟨Ao10, co10, eo10⟩ := Kd.R_slice HO_3.out
     subst eo10
     go_wp2_with (first | ((with_reducible refine gate_callee (f := 22) rfl ?_); refine goesL_ (some 32) rfl rfl Try.func22 (by kernel_rfl) rfl #[.slice Ao10 x3_1.length co10] rfl (by (try simp only [List.map_toArray, List.map_cons, List.map_nil]); first | done | rfl | (simp only [List.length_drop, List.length_take]; rfl)) ?_; (with_reducible refine (marchlandref03_Fix.calls k1 _ _ x3_1 t360 _ ?side1 ?side2 A9.out).mono ?_); (case side1 => repeat (first | exact (Kd.R_reads' HO_3.out).2.2 | (with_reducible refine Kd.C_alloc ?_ _) | (with_reducible refine Kd.C_drewN ?_ _) | (with_reducible refine Kd.C_drew ?_))); (case side2 => exact (Kd.R_reads' HO_3.out).2.1); rintro e w11 ⟨v361, rfl, ho0, hb⟩; refine ⟨_, rfl, ?_⟩; have n0_ := Aside0.mk (Kd.R_elder' (by (with_reducible repeat (first | apply Kd.R_alloc | apply Kd.R_drewN | apply Kd.R_drew)); exact HO_3.out) (Kd.R_base ho0) hb); have n1_ := Aside0.mk (Kd.R_lower (Kd.R_new' ho0 (Kd.R_lt (by (with_reducible repeat (first | apply Kd.R_alloc | apply Kd.R_drewN | apply Kd.R_drew)); exact HO_3.out))) (below_size (by repeat (first | (with_reducible first | exact HB.out | apply below_alloc | apply pw_below_drewN | apply below_drew1) | exact HB.out)))); have n2_ := Aside0.mk (below_step (by repeat (first | (with_reducible first | exact HB.out | apply below_alloc | apply pw_below_drewN | apply below_drew1) | exact HB.out)) hb); clear HO_3; clear HB; have HO_3 := n0_; have HO362 := n1_; have HB := n2_; clear n0_ n1_ n2_; (try clear hb); (try clear hb2); (try clear hk); (try clear hi); (try clear ho0)))
     go_ret
     exact ⟨_, by first | rfl | (simp [errW_none, errW_some] <;> rfl) | (simp [*, errW_none, errW_some] <;> rfl), by (with_reducible repeat (first | apply Kd.R_alloc | apply Kd.R_drewN | apply Kd.R_drew)); exact Kd.R_mono HO362.out (fun _ hk => trivial), by repeat (first | (with_reducible first | exact HB.out | apply below_alloc | apply pw_below_drewN | apply below_drew1) | exact HB.out)⟩
   ·rw [if_neg c2] at H
    have c2b0 : decide (x4_1 < (l0.length : Int)) = false := decide_eq_false c2
    clear c2
    replace H := Option.bind_eq_some_iff.mp H
    obtain ⟨t363, A120, H⟩ := H
    replace H : (some t363) = some r := H
    have A12 := Aside0.mk A120
    clear A120
    obtain rfl := Option.some.inj H
    obtain ⟨Ao13, co13, eo13⟩ := Kd.R_slice HO_3.out
    subst eo13
    go_wp2_with (first | ((with_reducible refine gate_callee (f := 22) rfl ?_); refine goesL_ (some 32) rfl rfl Try.func22 (by kernel_rfl) rfl #[.slice Ao13 x3_1.length co13] rfl (by (try simp only [List.map_toArray, List.map_cons, List.map_nil]); first | done | rfl | (simp only [List.length_drop, List.length_take]; rfl)) ?_; (with_reducible refine (marchlandref03_Fix.calls k1 _ _ x3_1 t363 _ ?side1 ?side2 A12.out).mono ?_); (case side1 => repeat (first | exact (Kd.R_reads' HO_3.out).2.2 | (with_reducible refine Kd.C_alloc ?_ _) | (with_reducible refine Kd.C_drewN ?_ _) | (with_reducible refine Kd.C_drew ?_))); (case side2 => exact (Kd.R_reads' HO_3.out).2.1); rintro e w14 ⟨v364, rfl, ho0, hb⟩; refine ⟨_, rfl, ?_⟩; have n0_ := Aside0.mk (Kd.R_elder' (by (with_reducible repeat (first | apply Kd.R_alloc | apply Kd.R_drewN | apply Kd.R_drew)); exact HO_3.out) (Kd.R_base ho0) hb); have n1_ := Aside0.mk (Kd.R_lower (Kd.R_new' ho0 (Kd.R_lt (by (with_reducible repeat (first | apply Kd.R_alloc | apply Kd.R_drewN | apply Kd.R_drew)); exact HO_3.out))) (below_size (by repeat (first | (with_reducible first | exact HB.out | apply below_alloc | apply pw_below_drewN | apply below_drew1) | exact HB.out)))); have n2_ := Aside0.mk (below_step (by repeat (first | (with_reducible first | exact HB.out | apply below_alloc | apply pw_below_drewN | apply below_drew1) | exact HB.out)) hb); clear HO_3; clear HB; have HO_3 := n0_; have HO365 := n1_; have HB := n2_; clear n0_ n1_ n2_; (try clear hb); (try clear hb2); (try clear hk); (try clear hi); (try clear ho0)))
    go_ret
    exact ⟨_, by first | rfl | (simp [errW_none, errW_some] <;> rfl) | (simp [*, errW_none, errW_some] <;> rfl), by (with_reducible repeat (first | apply Kd.R_alloc | apply Kd.R_drewN | apply Kd.R_drew)); exact Kd.R_mono HO365.out (fun _ hk => trivial), by repeat (first | (with_reducible first | exact HB.out | apply below_alloc | apply pw_below_drewN | apply below_drew1) | exact HB.out)⟩

end Go.Proofs.Ytgeldmhgbnamcaa.P
end
section
/- Plain laws of bags, first part: Concat, Merge, Apply, Least, Right; the reference's Fix of bags. -/
namespace Go.Proofs.Ytgeldmhgbnamcaa.Pure
open Go.RowKit Go.Proofs.Ytgeldmhgbnamcaa.P Go.Proofs.YtgeldmhgbnamcaaW.PrintWords Go.Proofs.YtgeldmhgbnamcaaW.PrintLast
set_option linter.unusedVariables false
set_option linter.unusedSimpArgs false
theorem concat_ev (a b : List S50) (h : Short (a.length + b.length)) : Ev (fun k => batch_Change_57.f k [a, b]) (a ++ b) := by
 unfold Short at h
 refine ⟨8, fun k hk => ?_⟩
 obtain ⟨k, rfl⟩ : ∃ m, k = m + 8 := ⟨k - 8, by omega⟩
 have w0 : wrap64 (0 + 1) = 1 := by unfold wrap64; omega
 have w1 : wrap64 (1 + 1) = 2 := by unfold wrap64; omega
 have a0 : wrap64 (0 + (a.length : Int)) = a.length := by unfold wrap64; omega
 have a1 : wrap64 ((a.length : Int) + (b.length : Int)) = ((a.length + b.length : Nat) : Int) := by unfold wrap64; omega
 have r0 : rd_L4 [a, b] 0 = a := rfl
 have r1 : rd_L4 [a, b] 1 = b := rfl
 have n2 : (([a, b] : List (List S50)).length : Int) = 2 := rfl
 show batch_Change_57.f (k + 8) [a, b] = _
 rw [batch_Change_57.f, n2]
 rw [batch_Change_57.l0, n2, if_pos (by omega), if_pos (by omega), if_pos (by omega), r0, a0, if_neg (by omega), w0]
 rw [batch_Change_57.l0, n2, if_pos (by omega), if_pos (by omega), if_pos (by omega), r1, a1, if_neg (by omega), w1]
 rw [batch_Change_57.l0, if_neg (by omega), slices_GrowNil.f, if_pos (by omega), if_pos (by omega), Option.bind_some, n2]
 rw [batch_Change_57.l1, n2, if_pos (by omega), if_pos (by omega), if_pos (by omega), r0, if_pos (by simp; omega), w0]
 rw [batch_Change_57.l1, n2, if_pos (by omega), if_pos (by omega), if_pos (by omega), r1, if_pos (by simp; omega), w1]
 rw [batch_Change_57.l1, if_neg (by omega)]
 simp
theorem merge_ev {a b : List S50} (hs : Sorts (a ++ b)) (h : Short (a.length + b.length)) : Ev (fun k => batch_Merge.f k a b) (sumv (a ++ b)) := by
 obtain ⟨s, K1, h1⟩ := summed_ev hs (by unfold Short at *; simpa using h)
 obtain ⟨K2, h2⟩ := concat_ev a b h
 refine ⟨K1 + K2, fun k hk => ?_⟩
 have h1 := h1 k (by omega); have h2 := h2 k (by omega); dsimp only at h1 h2
 show batch_Merge.f k a b = _
 rw [batch_Merge.f, h2, Option.bind_some, h1, Option.bind_some]
 unfold sumo sumv
 split <;> simp
/-- Apply: refused as soon as one entry would leave a count below nought -/
def applyv (a b : List S50) : List S50 × Int := if b.any (fun x => decide (wrap64 (ofv a ⟨x.f0, x.f1, 0⟩ + x.f2) < 0)) = true then ([], 11) else sumv (a ++ b)
theorem below_ev {a : List S50} (ha : Str a) (hl : a.length ≤ 4000000000000000000) (x : S50) : Ev (fun k => bag_below k a x) (decide (wrap64 (ofv a ⟨x.f0, x.f1, 0⟩ + x.f2) < 0)) := Ev.bind (of_ev a ha hl x.f0 x.f1) (Ev.now _)
theorem all_below {a : List S50} (ha : Str a) (hl : a.length ≤ 4000000000000000000) : ∀ b : List S50, ∃ K, ∀ k, K ≤ k → ∀ x ∈ b, bag_below k a x = some (decide (wrap64 (ofv a ⟨x.f0, x.f1, 0⟩ + x.f2) < 0)) := by
 intro b
 induction b with
 | nil => exact ⟨0, fun k _ x h => by cases h⟩
 | cons y b ih =>
  obtain ⟨K, h⟩ := ih
  obtain ⟨K1, h1⟩ := below_ev ha hl y
  refine ⟨K + K1, fun k hk x hx => ?_⟩
  rcases List.mem_cons.1 hx with rfl | hx
  ·exact h1 k (by omega)
  ·exact h k (by omega) x hx
theorem apply_ev {a b : List S50} (ha : Str a) (hs : Sorts (a ++ b)) (h : Short (a.length + b.length)) : Ev (fun k => bag_Apply.f k a b) (applyv a b) := by
 unfold Short at h
 obtain ⟨K, h1⟩ := all_below ha (by omega) b
 obtain ⟨K2, h2⟩ := merge_ev hs h
 refine ⟨K + K2, fun k hk => ?_⟩
 have h1 := h1 k (by omega); have h2 := h2 k (by omega); dsimp only at h2
 show bag_Apply.f k a b = _
 have c1 : b.all (fun x => (bag_below k a x).isSome) = true := List.all_eq_true.2 (fun x hx => by rw [h1 x hx]; rfl)
 have c2 : b.any (fun x => bag_below k a x == some true) = b.any (fun x => decide (wrap64 (ofv a ⟨x.f0, x.f1, 0⟩ + x.f2) < 0)) := by
  rw [Bool.eq_iff_iff, List.any_eq_true, List.any_eq_true]
  constructor
  ·rintro ⟨x, hx, h⟩; rw [h1 x hx] at h; exact ⟨x, hx, by simpa using h⟩
  ·rintro ⟨x, hx, h⟩; exact ⟨x, hx, by rw [h1 x hx, h]; rfl⟩
 rw [bag_Apply.f, if_pos c1, c2, h2]
 unfold applyv
 split <;> rfl
/-! ### Least -/
def leastv (p : Int) : List S50 → Int
 | [] => 18446744073709551615
 | x :: r => if x.f0 = p then x.f1 else leastv p r
theorem least_l0 (p : Int) (X : List S50) (hl : X.length ≤ 8000000000000000000) : ∀ (r pre : List S50), X = pre ++ r → Ev (fun k => bag_Least.l0 k p X (X.length : Int) (pre.length : Int)) (leastv p r) := by
 intro r
 induction r with
 | nil =>
  intro pre e
  refine ⟨1, fun k hk => ?_⟩
  obtain ⟨k, rfl⟩ : ∃ m, k = m + 1 := ⟨k - 1, by omega⟩
  show bag_Least.l0 (k + 1) _ _ _ _ = _
  rw [bag_Least.l0, if_neg (by subst e; simp)]
  rfl
 | cons x r ih =>
  intro pre e
  obtain ⟨K, h⟩ := ih (pre ++ [x]) (by simp [e])
  have ll : X.length = pre.length + (r.length + 1) := by rw [e]; simp
  have e1 : rd_T50 X (pre.length : Int) = x := by rw [e]; exact rd5 _ _ _ rfl
  have ew : wrap64 ((pre.length : Int) + 1) = ((pre ++ [x]).length : Int) := by rw [w64s (by omega)]; simp
  refine ⟨K + 1, fun k hk => ?_⟩
  obtain ⟨k, rfl⟩ : ∃ m, k = m + 1 := ⟨k - 1, by omega⟩
  have h := h k (by omega); dsimp only at h
  show bag_Least.l0 (k + 1) _ _ _ _ = _
  rw [bag_Least.l0, if_pos (by omega), if_pos (by omega), if_pos (by omega), e1, ew, h]
  simp only [leastv]
  split <;> rfl
theorem least_ev (X : List S50) (hl : X.length ≤ 8000000000000000000) (p : Int) : Ev (fun k => bag_Least.f k X p) (leastv p X) := least_l0 p X hl X [] rfl
/-! ### the reference's Fix of bags -/
def fix4 (x : S40) : S40 := ⟨x.f0, x.f1, wrap64 (1 + (wrap64 (Int.tmod (IntKind.u64.wrap x.f2) 5)))⟩
theorem fix4_val (x : S40) : 1 ≤ (fix4 x).f2 ∧ (fix4 x).f2 ≤ 5 := by
 have hp : 0 ≤ IntKind.u64.wrap x.f2 := by simp [IntKind.wrap, IntKind.bits, IntKind.signed]; omega
 have h1 := Int.tmod_lt_of_pos (IntKind.u64.wrap x.f2) (b := 5) (by omega)
 have h2 := Int.tmod_nonneg (b := 5) hp (a := IntKind.u64.wrap x.f2)
 simp only [fix4]
 generalize Int.tmod (IntKind.u64.wrap x.f2) 5 = z at *
 have : wrap64 z = z := by unfold wrap64; omega
 rw [this]
 have : wrap64 (1 + z) = 1 + z := by unfold wrap64; omega
 rw [this]; omega
theorem fix4_wf {x : S40} (h : wfC x) : wfC (fix4 x) := ⟨h.1, h.2.1, by have := fix4_val x; omega⟩
theorem fix4_l0 (X : List S40) : ∀ (r pre : List S40), X = pre ++ r → pre.length ≤ 12 → Ev (fun k => marchlandref04_Fix.l0 k X (pre.map fix4) (pre.length : Int)) ((sumk (((X.take 12).map fix4).map fix1)).map v) := by
 have fin_ : ∀ pre : List S40, pre.length ≤ 12 → Ev (fun k => (marchlandref03_Fix.f k (pre.map fix4)).bind fun b => some b) ((sumk ((pre.map fix4).map fix1)).map v) := by
  intro pre h
  have := Ev.bind (fix_ev (pre.map fix4)) (Ev.now _) (f := fun _ b => some b)
  rwa [List.take_of_length_le (by simpa using h)] at this
 intro r
 induction r with
 | nil =>
  intro pre e hp
  obtain ⟨K, h⟩ := fin_ pre hp
  refine ⟨K + 1, fun k hk => ?_⟩
  obtain ⟨k, rfl⟩ : ∃ m, k = m + 1 := ⟨k - 1, by omega⟩
  have h := h k (by omega); dsimp only at h
  have e' : X.take 12 = pre := by rw [e, List.append_nil]; exact List.take_of_length_le hp
  show marchlandref04_Fix.l0 (k + 1) _ _ _ = _
  rw [marchlandref04_Fix.l0, if_neg (by subst e; simp), e']
  exact h
 | cons x r ih =>
  intro pre e hp
  have ll : X.length = pre.length + (r.length + 1) := by rw [e]; simp
  by_cases h12 : pre.length = 12
  ·obtain ⟨K, h⟩ := fin_ pre hp
   refine ⟨K + 1, fun k hk => ?_⟩
   obtain ⟨k, rfl⟩ : ∃ m, k = m + 1 := ⟨k - 1, by omega⟩
   have h := h k (by omega); dsimp only at h
   have e' : X.take 12 = pre := by rw [e, ← h12]; simp
   show marchlandref04_Fix.l0 (k + 1) _ _ _ = _
   rw [marchlandref04_Fix.l0, if_pos (by omega), if_neg (by omega), e']
   exact h
  ·obtain ⟨K, h⟩ := ih (pre ++ [x]) (by simp [e]) (by simp; omega)
   refine ⟨K + 1, fun k hk => ?_⟩
   obtain ⟨k, rfl⟩ : ∃ m, k = m + 1 := ⟨k - 1, by omega⟩
   have h := h k (by omega); dsimp only at h
   have e1 : rd_T40 X (pre.length : Int) = x := by rw [e]; exact rd4 _ _ _ rfl
   have ew : wrap64 ((pre.length : Int) + 1) = ((pre ++ [x]).length : Int) := by rw [w64s (by omega)]; simp
   have em : pre.map fix4 ++ [(⟨x.f0, x.f1, wrap64 (1 + (wrap64 (Int.tmod (IntKind.u64.wrap x.f2) 5)))⟩ : S40)] = (pre ++ [x]).map fix4 := by simp [fix4]
   show marchlandref04_Fix.l0 (k + 1) _ _ _ = _
   rw [marchlandref04_Fix.l0, if_pos (by omega), if_pos (by omega), if_pos (by omega), if_pos (by simp; omega), e1, em, ew]
   exact h
theorem fix4_ev (X : List S40) : Ev (fun k => marchlandref04_Fix.f k X) ((sumk (((X.take 12).map fix4).map fix1)).map v) := fix4_l0 X X [] rfl (by simp)
/-- totals of small counts -/
theorem ins_bound {x : S50} {B : Int} (hB : 0 ≤ B ∧ B ≤ 1000000) (hx : 1 ≤ x.f2 ∧ x.f2 ≤ 5) : ∀ {l : List S50}, (∀ y ∈ l, 1 ≤ y.f2 ∧ y.f2 ≤ B) → ∀ y ∈ ins x l, 1 ≤ y.f2 ∧ y.f2 ≤ B + 5 := by
 intro l
 induction l with
 | nil => intro _ y hy; simp only [ins, List.mem_singleton] at hy; subst hy; omega
 | cons z l ih =>
  intro h y hy
  have hz := h z (by simp)
  have hl := fun w hw => h w (List.mem_cons_of_mem z hw)
  simp only [ins] at hy
  split at hy
  ·rcases List.mem_cons.1 hy with rfl | hy
   ·have : wrap64 (z.f2 + x.f2) = z.f2 + x.f2 := by unfold wrap64; omega
    simp only [plus, this]; omega
   ·have := hl y hy; omega
  ·split at hy
   ·rcases List.mem_cons.1 hy with rfl | hy
    ·omega
    ·have := h y hy; omega
   ·rcases List.mem_cons.1 hy with rfl | hy
    ·omega
    ·exact ih hl y hy
theorem fold_bound : ∀ (l a : List S50) (B : Int), (0 ≤ B ∧ B + 5 * l.length ≤ 1000000) → (∀ x ∈ l, 1 ≤ x.f2 ∧ x.f2 ≤ 5) → (∀ y ∈ a, 1 ≤ y.f2 ∧ y.f2 ≤ B) → ∀ y ∈ l.foldl (fun a x => ins x a) a, 1 ≤ y.f2 ∧ y.f2 ≤ B + 5 * l.length := by
 intro l
 induction l with
 | nil => intro a B _ _ h y hy; have := h y hy; simp; omega
 | cons x l ih =>
  intro a B hB hl ha y hy
  simp only [List.length_cons] at hB ⊢
  have := ih (ins x a) (B + 5) (by omega) (fun z hz => hl z (by simp [hz])) (ins_bound (by omega) (hl x (by simp)) ha) y hy
  omega
theorem fix1_f2 {x : S40} (h : 1 ≤ x.f2 ∧ x.f2 ≤ 5) : 1 ≤ (fix1 x).f2 ∧ (fix1 x).f2 ≤ 5 := by
 have : Int.tmod x.f2 1000 = x.f2 := Int.tmod_eq_of_lt (by omega) (by omega)
 simp only [fix1, this]; exact h
theorem fix4_pos (X : List S40) : ∀ y ∈ sumk (((X.take 12).map fix4).map fix1), 1 ≤ y.f2 ∧ y.f2 ≤ 60 := by
 intro y hy
 have hm : y ∈ tot (((X.take 12).map fix4).map fix1) := by
  unfold sumk at hy; split at hy
  ·exact (List.mem_filter.1 hy).1
  ·cases hy
 have hl : (((X.take 12).map fix4).map fix1).length ≤ 12 := by simp only [List.length_map, List.length_take]; omega
 have := fold_bound (((X.take 12).map fix4).map fix1) [] 0 (by omega) (fun x hx => by
  obtain ⟨z, hz, rfl⟩ := List.mem_map.1 hx
  obtain ⟨w, hw, rfl⟩ := List.mem_map.1 hz
  exact fix1_f2 (fix4_val w)) (fun _ h => by cases h) y hm
 omega
theorem fix4_rt {X : List S40} (h : ∀ y ∈ X, wfC y) : Rt (sumk (((X.take 12).map fix4).map fix1)) := sumk_rt (fun x hx => by
 obtain ⟨y, hy, rfl⟩ := List.mem_map.1 hx
 obtain ⟨w, hw, rfl⟩ := List.mem_map.1 hy
 exact fix1_key _ (fix4_wf (h w (List.mem_of_mem_take hw))))
theorem fix4_len (X : List S40) : (sumk (((X.take 12).map fix4).map fix1)).length ≤ 12 := by
 have := sumk_len (((X.take 12).map fix4).map fix1); rw [List.length_map, List.length_map, List.length_take] at this; omega
theorem told4 : Ev (fun k => marchlandlaw04_told.f k) true := Ev.of (fun k => marchlandlaw04_told.mono k) (k := 40) (by kernel_rfl)
end Go.Proofs.Ytgeldmhgbnamcaa.Pure
end
