/- Walks and laws of several statements of this seat, joined into one text; no condition. -/
import Derived.Test.YtgeldmhgbnamcaaProg
import Derived.Below
import Derived.Deep.Draws
import Derived.Deep.AppendLies
import Derived.Maps.AppendAt
import Derived.OwnWalk
import Derived.Laws.BytesArg
import Derived.Laws.MakeOwn
import Derived.Laws.OwnMore
import Derived.Deep.OwnRows
import Derived.Tactics
import Derived.Lib.ConvBytes
import Derived.Laws.Slices
import Derived.WalkKit
import Derived.KernelRfl
import Derived.RowKit3
import Derived.Deep.LoopGhost
import Derived.Deep.QuietTactic
import Derived.BigQuiet
import Derived.WideLaws
import Derived.Deep.DeepCutAuto
import Derived.Deep.CutBlock
import Derived.Deep.RegionHeld3
import Derived.Laws.Rows
import Derived.Lib.AppendStr
import Derived.ArgAppend
import Derived.Laws.IdiomCopy
import Derived.OrdersHeld
import Derived.Laws.BitsLemmas
import Derived.RowKit
import Derived.Laws.StructEq
import Derived.Lib.BufferMore
import Derived.Test.YtgeldmhgbnamcaaXa0
import Derived.Test.YtgeldmhgbnamcaaXa1
import Derived.Test.YtgeldmhgbnamcaaXa2
import Derived.Test.YtgeldmhgbnamcaaXa5
section
-- Printed by the session's own turn of the print (wip/tools/print2.sh): some callees are proved by hand.
namespace Go.Proofs.Ytgeldmhgbnamcaa.P
open Go.RowKit Go.Proofs.YtgeldmhgbnamcaaW.PrintWords Go.Proofs.YtgeldmhgbnamcaaW.PrintLast Go.Proofs.YtgeldmhgbnamcaaW.PrintMore
attribute [local go_sem] max2_int min2_int max_two min_two max_three min_three max_four min_four   -- for this text's walks alone
set_option linter.unusedVariables false
set_option linter.unusedSimpArgs false
/-! ### batch_Pack: function 15 -/
def batch_Pack.l0 : Nat → List (S50) → List (S50) → Int → Int → Option ((List (S50)) × Int)
 | 0, _, _, _, _ => none
 | k + 1, x0, x10, x11, x12 => if x12 < x11 then (if 0 ≤ x12 then (if x12 < (x10.length : Int) then ((batch_wrong.f k ((rd_T50 x10 x12).f0) ((rd_T50 x10 x12).f1) ((rd_T50 x10 x12).f2)).bind fun t174 => (if t174 = 0 then (batch_Pack.l0 k x0 x10 x11 (wrap64 (x12 + 1))) else (some (([] : List (S50)), t174)))) else (none)) else (none)) else ((slices_CloneC.f x0).bind fun t175 => ((batch_summed.f k t175).bind fun bt178 => (some (bt178.1, bt178.2.1))))
def batch_Pack.f (k : Nat) (l0 : List (S50)) : Option ((List (S50)) × Int) := if (l0.length : Int) > 16 then (some (([] : List (S50)), 4)) else (batch_Pack.l0 k l0 l0 (l0.length : Int) 0)
theorem batch_Pack.mono_l : ∀ k, (∀ y0 y1 y2 y3, LeO (batch_Pack.l0 k y0 y1 y2 y3) (batch_Pack.l0 (k + 1) y0 y1 y2 y3))
 | 0 => fun _ _ _ _ r h => by simp [batch_Pack.l0] at h
 | k + 1 => by
  have ih0 := batch_Pack.mono_l k
  ·intro y0 y1 y2 y3
   unfold batch_Pack.l0
   repeat' first
   | (with_reducible exact ih0 _ _ _ _)
   | (with_reducible exact batch_summed.mono _ _)
   | (with_reducible exact batch_wrong.mono _ _ _ _)
   | (with_reducible exact LeO.refl _)
   | (with_reducible exact LeO.none _)
   | (with_reducible refine LeO.ite ?_ ?_)
   | (with_reducible refine LeO.bind ?_ (fun _ => ?_))
   | exact ih0 _ _ _ _
   | exact batch_summed.mono _ _
   | exact batch_wrong.mono _ _ _ _
   | exact LeO.none _
   | refine LeO.ite ?_ ?_
   | refine LeO.bind ?_ (fun _ => ?_)
theorem batch_Pack.mono : ∀ a0 k, LeO (batch_Pack.f k a0) (batch_Pack.f (k + 1) a0) := by
 intro a0 k
 have ih0 := batch_Pack.mono_l k
 unfold batch_Pack.f
 repeat' first
   | (with_reducible exact ih0 _ _ _ _)
   | (with_reducible exact batch_summed.mono _ _)
   | (with_reducible exact batch_wrong.mono _ _ _ _)
   | (with_reducible exact LeO.refl _)
   | (with_reducible exact LeO.none _)
   | (with_reducible refine LeO.ite ?_ ?_)
   | (with_reducible refine LeO.bind ?_ (fun _ => ?_))
   | exact ih0 _ _ _ _
   | exact batch_summed.mono _ _
   | exact batch_wrong.mono _ _ _ _
   | exact LeO.none _
   | refine LeO.ite ?_ ?_
   | refine LeO.bind ?_ (fun _ => ?_)
set_option maxHeartbeats 8000000 in
set_option maxRecDepth 100000 in
theorem batch_Pack.calls (k : Nat) (A0 : Option Addr) (c0 : Nat) (l0 : List (S50)) (r1 : List (S50)) (r2 : Int) (w : World) (hr0 : Kd.C k50 w A0 l0.length l0) (hc0 : l0.length ≤ c0) (h : batch_Pack.f k l0 = some (r1, r2)) :
  Calls Try.prog 15 #[.slice A0 l0.length c0] w fun e w' => ∃ v0_ : Value, e = .returned (.tuple #[v0_, .int .i64 r2]) ∧ Kd.R k50 50 w' w.heap.size (fun _ => True) v0_ r1 ∧ Below w.heap.size w w' := by
 have hu50 := Try.underlying50
 have HR0 := Aside0.mk hr0
 have HC0 := Aside0.mk hc0
 clear hr0 hc0
 have HB := Aside0.mk (Below.refl w.heap.size w)
 have H : (if (l0.length : Int) > 16 then (some (([] : List (S50)), 4)) else (batch_Pack.l0 k l0 l0 (l0.length : Int) 0)) = some (r1, r2) := h
 clear h
 by_cases c2 : (l0.length : Int) > 16
 ·rw [if_pos c2] at H
  have c2b0 : decide (16 < (l0.length : Int)) = true := decide_eq_true c2
  have c2b1 : decide (16 < l0.length) = true := decide_eq_true (by omega)
  clear c2
  simp only [Option.some.injEq, Prod.mk.injEq] at H
  obtain ⟨rfl, rfl⟩ := H
  go_enter Try.func15, Try.ntmps15
  go_wp2
  go_ret2
  exact ⟨_, by first | rfl | (simp [errW_none, errW_some] <;> rfl) | (simp [*, errW_none, errW_some] <;> rfl), by first | exact Kd.R_nil _ _ _ _ _ | exact Kd.N_nil _ _ _ _ _ | exact Kd.V_nil _ _ _ _ _ | exact Kd.Q_nil _ _ _ _ _ | exact Kd.S_nil _ _ _ _ _, by repeat (first | (with_reducible first | exact HB.out | apply below_alloc | apply pw_below_drewN | apply below_drew1) | exact HB.out)⟩
 ·rw [if_neg c2] at H
  have c2b0 : decide (16 < (l0.length : Int)) = false := decide_eq_false c2
  have c2b1 : decide (16 < l0.length) = false := decide_eq_false (by omega)
  clear c2
  have H' := Aside0.mk H
  clear H
  go_enter Try.func15, Try.ntmps15
  go_wp2
  go_loopg [12] k (fun kq v12 w' => ∃ (x12_1 : Int), v12 = .int .i64 x12_1 ∧ Aside0 (batch_Pack.l0 kq l0 l0 (l0.length : Int) x12_1 = some (r1, r2)) ∧ Aside0 (kq ≤ k) ∧ Aside0 (Below w.heap.size w w'))
  case atStart => exact ⟨(0), (by first | rfl | (simp; done) | (simp [*]; done)), H', ⟨Nat.le_refl _⟩, ⟨by repeat (first | (with_reducible first | exact HB.out | apply below_alloc | apply pw_below_drewN | apply below_drew1) | exact HB.out)⟩⟩
  case round =>
   clear H'
   (try clear c1); (try clear c2); (try clear c2b0); (try clear c2b1); (try clear p2)
   obtain ⟨x12_1, rfl, HA, HK1, HB⟩ := hrel
   cases gk with
   | zero => exact absurd HA.out (by simp [batch_Pack.l0])
   | succ k1 =>
    have H := HA.out
    clear HA
    simp only [batch_Pack.l0] at H
    by_cases c3 : x12_1 < (l0.length : Int)
    ·rw [if_pos c3] at H
     have c3b0 : decide (x12_1 < (l0.length : Int)) = true := decide_eq_true c3
     clear c3
     by_cases c4 : 0 ≤ x12_1
     ·rw [if_pos c4] at H
      have c4b0 : decide (0 ≤ x12_1) = true := decide_eq_true c4
      clear c4
      by_cases c5 : x12_1 < (l0.length : Int)
      ·rw [if_pos c5] at H
       have c5b0 : decide (x12_1 < (l0.length : Int)) = true := decide_eq_true c5
       clear c5
       replace H := Option.bind_eq_some_iff.mp H
       obtain ⟨t174, A60, H⟩ := H
       replace H : (if t174 = 0 then (batch_Pack.l0 k1 l0 l0 (l0.length : Int) (wrap64 (x12_1 + 1))) else (some (([] : List (S50)), t174))) = some (r1, r2) := H
       have A6 := Aside0.mk A60
       clear A60
       by_cases c7 : t174 = 0
       ·rw [if_pos c7] at H
        have c7b0 : (t174 == 0) = true := beq_iff_eq.mpr c7
        have c7b1 : (t174 != 0) = false := bne_eq_false_iff_eq.mpr c7
        clear c7
        have H' := Aside0.mk H
        clear H
        have p172 : 0 ≤ (x12_1 : Int) := of_decide_eq_true (by assumption)
        have q172 : x12_1 < (l0.length : Int) := of_decide_eq_true (by assumption)
        obtain ⟨ad172, e172, hx172_0, hx172_1, hx172_2⟩ := at_T50 HR0.out x12_1 p172 q172
        cases e172
        replace hx172_0 := (HB.out.cell (World.block_lt_of_cell? w _ hx172_0)).trans hx172_0
        replace hx172_1 := (HB.out.cell (World.block_lt_of_cell? w _ hx172_1)).trans hx172_1
        replace hx172_2 := (HB.out.cell (World.block_lt_of_cell? w _ hx172_2)).trans hx172_2
        replace p172 := eq_true p172
        replace q172 := eq_true q172
        go_wp2_with (first | ((with_reducible refine gate_dst (N := 5) rfl ?_); refine box_event ?hg (N := 5) ?hd (cs := #[.int .i64 0, .int .u64 0, .int .i64 0]) (t := 50) ?hr ?_; (case hd => rfl); (case hg => rfl); (case hr => first | (go_simp; done) | (go_simp; rfl)); intro gb173 hg w8 hbox hb; have n1_ := Aside0.mk (hbox); have n2_ := Aside0.mk ((by rw [hg]; exact (below_size (bn HB)) : w.heap.size ≤ gb173)); have n3_ := Aside0.mk ((by rw [hg]; exact (below_size (bn HB)) : w.heap.size ≤ gb173)); replace HB := bb HB hb; have BK173 := n1_; have GW173 := n2_; have GE173 := n3_; clear n1_ n2_ n3_; clear hb hbox hg; have hcz9_0 : w8.cell? ⟨gb173, 0, none⟩ = some (.int .i64 0) := (blk_cell BK173.out 0).trans rfl; have hcz9_1 : w8.cell? ⟨gb173, 1, none⟩ = some (.int .u64 0) := (blk_cell BK173.out 1).trans rfl; have hcz9_2 : w8.cell? ⟨gb173, 2, none⟩ = some (.int .i64 0) := (blk_cell BK173.out 2).trans rfl; have hfz9_0 := blk_frozen BK173.out 0; have hfz9_1 := blk_frozen BK173.out 1; have hfz9_2 := blk_frozen BK173.out 2) | ((with_reducible refine gate_callee (f := 48) rfl ?_); refine gl (some 17) Try.func48 #[.agg #[.int .i64 ((rd_T50 l0 x12_1).f0), .int .u64 ((rd_T50 l0 x12_1).f1), .int .i64 ((rd_T50 l0 x12_1).f2)]] ?_; (with_reducible refine (batch_wrong.calls k1 ((rd_T50 l0 x12_1).f0) ((rd_T50 l0 x12_1).f1) ((rd_T50 l0 x12_1).f2) t174 _ A6.out).mono ?_); rintro e w10 ⟨rfl, hb⟩; refine ⟨_, rfl, ?_⟩; have n0_ := Aside0.mk (blk_below (g := gb173) (o := .cells #[.int .i64 ((rd_T50 l0 x12_1).f0), .int .u64 ((rd_T50 l0 x12_1).f1), .int .i64 ((rd_T50 l0 x12_1).f2)] 50 (0, 0)) (by (with_reducible repeat (first | refine blk_drewN ?_ _ | refine blk_drew ?_ | refine blk_alloc ?_ _)); refine blk_put (cs := #[.int .i64 ((rd_T50 l0 x12_1).f0), .int .u64 ((rd_T50 l0 x12_1).f1), .int .i64 0]) ?_ 2 _ rfl; (with_reducible repeat (first | refine blk_drewN ?_ _ | refine blk_drew ?_ | refine blk_alloc ?_ _)); refine blk_put (cs := #[.int .i64 ((rd_T50 l0 x12_1).f0), .int .u64 0, .int .i64 0]) ?_ 1 _ rfl; (with_reducible repeat (first | refine blk_drewN ?_ _ | refine blk_drew ?_ | refine blk_alloc ?_ _)); refine blk_put (cs := #[.int .i64 0, .int .u64 0, .int .i64 0]) ?_ 0 _ rfl; (with_reducible repeat (first | refine blk_drewN ?_ _ | refine blk_drew ?_ | refine blk_alloc ?_ _)); exact BK173.out) hb); have n1_ := Aside0.mk (below_step (by repeat (first | (with_reducible first | exact HB.out | apply below_alloc | apply pw_below_drewN | apply below_drew1 | refine below_set ?_ GE173.out) | exact HB.out)) hb); clear BK173; clear HB; have BK173 := n0_; have HB := n1_; clear n0_ n1_; (try clear hb)))
        go_roundg k1
        case measure => have := HK1.out; omega
        case rel => exact ⟨(wrap64 (x12_1 + 1)), (by first | rfl | (simp; done) | (simp [*]; done)), H', ⟨by have := HK1.out; omega⟩, ⟨by repeat (first | (with_reducible first | exact HB.out | apply below_alloc | apply pw_below_drewN | apply below_drew1 | refine below_set ?_ GE173.out) | exact HB.out)⟩⟩
       ·rw [if_neg c7] at H
        have c7b0 : (t174 == 0) = false := beq_eq_false_iff_ne.mpr c7
        have c7b1 : (t174 != 0) = true := bne_iff_ne.mpr c7
        simp only [Option.some.injEq, Prod.mk.injEq] at H
        obtain ⟨rfl, rfl⟩ := H
        have p172 : 0 ≤ (x12_1 : Int) := of_decide_eq_true (by assumption)
        have q172 : x12_1 < (l0.length : Int) := of_decide_eq_true (by assumption)
        obtain ⟨ad172, e172, hx172_0, hx172_1, hx172_2⟩ := at_T50 HR0.out x12_1 p172 q172
        cases e172
        replace hx172_0 := (HB.out.cell (World.block_lt_of_cell? w _ hx172_0)).trans hx172_0
        replace hx172_1 := (HB.out.cell (World.block_lt_of_cell? w _ hx172_1)).trans hx172_1
        replace hx172_2 := (HB.out.cell (World.block_lt_of_cell? w _ hx172_2)).trans hx172_2
        replace p172 := eq_true p172
        replace q172 := eq_true q172
        go_wp2_with (first | ((with_reducible refine gate_dst (N := 5) rfl ?_); refine box_event ?hg (N := 5) ?hd (cs := #[.int .i64 0, .int .u64 0, .int .i64 0]) (t := 50) ?hr ?_; (case hd => rfl); (case hg => rfl); (case hr => first | (go_simp; done) | (go_simp; rfl)); intro gb173 hg w11 hbox hb; have n1_ := Aside0.mk (hbox); have n2_ := Aside0.mk ((by rw [hg]; exact (below_size (bn HB)) : w.heap.size ≤ gb173)); have n3_ := Aside0.mk ((by rw [hg]; exact (below_size (bn HB)) : w.heap.size ≤ gb173)); replace HB := bb HB hb; have BK173 := n1_; have GW173 := n2_; have GE173 := n3_; clear n1_ n2_ n3_; clear hb hbox hg; have hcz12_0 : w11.cell? ⟨gb173, 0, none⟩ = some (.int .i64 0) := (blk_cell BK173.out 0).trans rfl; have hcz12_1 : w11.cell? ⟨gb173, 1, none⟩ = some (.int .u64 0) := (blk_cell BK173.out 1).trans rfl; have hcz12_2 : w11.cell? ⟨gb173, 2, none⟩ = some (.int .i64 0) := (blk_cell BK173.out 2).trans rfl; have hfz12_0 := blk_frozen BK173.out 0; have hfz12_1 := blk_frozen BK173.out 1; have hfz12_2 := blk_frozen BK173.out 2) | ((with_reducible refine gate_callee (f := 48) rfl ?_); refine gl (some 17) Try.func48 #[.agg #[.int .i64 ((rd_T50 l0 x12_1).f0), .int .u64 ((rd_T50 l0 x12_1).f1), .int .i64 ((rd_T50 l0 x12_1).f2)]] ?_; (with_reducible refine (batch_wrong.calls k1 ((rd_T50 l0 x12_1).f0) ((rd_T50 l0 x12_1).f1) ((rd_T50 l0 x12_1).f2) t174 _ A6.out).mono ?_); rintro e w13 ⟨rfl, hb⟩; refine ⟨_, rfl, ?_⟩; have n0_ := Aside0.mk (blk_below (g := gb173) (o := .cells #[.int .i64 ((rd_T50 l0 x12_1).f0), .int .u64 ((rd_T50 l0 x12_1).f1), .int .i64 ((rd_T50 l0 x12_1).f2)] 50 (0, 0)) (by (with_reducible repeat (first | refine blk_drewN ?_ _ | refine blk_drew ?_ | refine blk_alloc ?_ _)); refine blk_put (cs := #[.int .i64 ((rd_T50 l0 x12_1).f0), .int .u64 ((rd_T50 l0 x12_1).f1), .int .i64 0]) ?_ 2 _ rfl; (with_reducible repeat (first | refine blk_drewN ?_ _ | refine blk_drew ?_ | refine blk_alloc ?_ _)); refine blk_put (cs := #[.int .i64 ((rd_T50 l0 x12_1).f0), .int .u64 0, .int .i64 0]) ?_ 1 _ rfl; (with_reducible repeat (first | refine blk_drewN ?_ _ | refine blk_drew ?_ | refine blk_alloc ?_ _)); refine blk_put (cs := #[.int .i64 0, .int .u64 0, .int .i64 0]) ?_ 0 _ rfl; (with_reducible repeat (first | refine blk_drewN ?_ _ | refine blk_drew ?_ | refine blk_alloc ?_ _)); exact BK173.out) hb); have n1_ := Aside0.mk (below_step (by repeat (first | (with_reducible first | exact HB.out | apply below_alloc | apply pw_below_drewN | apply below_drew1 | refine below_set ?_ GE173.out) | exact HB.out)) hb); clear BK173; clear HB; have BK173 := n0_; have HB := n1_; clear n0_ n1_; (try clear hb)))
        go_ret2
        exact ⟨_, by first | rfl | (simp [errW_none, errW_some] <;> rfl) | (simp [*, errW_none, errW_some] <;> rfl), by first | exact Kd.R_nil _ _ _ _ _ | exact Kd.N_nil _ _ _ _ _ | exact Kd.V_nil _ _ _ _ _ | exact Kd.Q_nil _ _ _ _ _ | exact Kd.S_nil _ _ _ _ _, by repeat (first | (with_reducible first | exact HB.out | apply below_alloc | apply pw_below_drewN | apply below_drew1 | refine below_set ?_ GE173.out) | exact HB.out)⟩
      ·rw [if_neg c5] at H
       exact absurd H (by simp)
     ·rw [if_neg c4] at H
      exact absurd H (by simp)
    ·rw [if_neg c3] at H
     have c3b0 : decide (x12_1 < (l0.length : Int)) = false := decide_eq_false c3
     clear c3
     replace H := Option.bind_eq_some_iff.mp H
     obtain ⟨t175, A140, H⟩ := H
     replace H : ((batch_summed.f k1 t175).bind fun bt178 => (some (bt178.1, bt178.2.1))) = some (r1, r2) := H
     have A14 := Aside0.mk A140
     clear A140
     replace H := Option.bind_eq_some_iff.mp H
     obtain ⟨⟨t178, t181, t182⟩, A150, H⟩ := H
     replace H : (some (t178, t181)) = some (r1, r2) := H
     have A15 := Aside0.mk A150
     clear A150
     simp only [Option.some.injEq, Prod.mk.injEq] at H
     obtain ⟨rfl, rfl⟩ := H
     go_wp2_with (first | ((with_reducible refine gate_callee (f := 50) rfl ?_); refine gl (some 23) Try.func50 #[.slice A0 l0.length c0] ?_; (with_reducible refine (slices_CloneC.calls _ _ l0 t175 _ ?side1 ?side2 A14.out).mono ?_); (case side1 => repeat (first | exact (Kd.C_below HR0.out HB.out) | (with_reducible refine Kd.C_alloc ?_ _) | (with_reducible refine Kd.C_drewN ?_ _) | (with_reducible refine Kd.C_drew ?_))); (case side2 => exact HC0.out); rintro e w16 ⟨v176, rfl, ho0, hb⟩; refine ⟨_, rfl, ?_⟩; have n0_ := Aside0.mk (Kd.R_lower ho0 (below_size (bn HB))); have HO177 := n0_; replace HB := bb HB hb; clear n0_; (try clear hb); (try clear ho0); obtain ⟨Ao17, co17, eo17⟩ := Kd.R_slice HO177.out; subst eo17) | ((with_reducible refine gate_callee (f := 49) rfl ?_); refine gl (some 24) Try.func49 #[.slice Ao17 t175.length co17] ?_; (with_reducible refine (batch_summed.calls k1 (fun k_ => some k_ = (.slice Ao17 t175.length co17 : Value).ownBlock) (.slice Ao17 t175.length co17) t175 t178 t181 t182 w _ ?side1 ?side2 A15.out).mono ?_); (case side1 => repeat (first | (with_reducible first | exact HB.out | apply below_alloc | apply pw_below_drewN | apply below_drew1) | exact HB.out)); (case side2 => exact Kd.R_tight rfl HO177.out); rintro e w18 ⟨v179, rfl, ho0, hy0, hb, hkp⟩; refine ⟨_, rfl, ?_⟩; have n0_ := Aside0.mk (Kd.R_reok rfl hy0 (fun k_ e_ => HO177.out.1 k_ e_)); have n1_ := Aside0.mk (Kd.R_mono (ok' := fun k_ => some k_ ≠ (.slice Ao17 t175.length co17 : Value).ownBlock) ho0 (fun k_ hk_ => hk_.2)); have n2_ := Aside0.mk (hb); clear HO177; clear HB; have HO177 := n0_; have HO180 := n1_; have HB := n2_; clear n0_ n1_ n2_; (try clear hb); (try clear hkp); (try clear ho0); (try clear hy0)))
     go_ret2
     exact ⟨_, by first | rfl | (simp [errW_none, errW_some] <;> rfl) | (simp [*, errW_none, errW_some] <;> rfl), by (with_reducible repeat (first | apply Kd.R_alloc | apply Kd.R_drewN | apply Kd.R_drew)); exact Kd.R_mono HO180.out (fun _ hk => trivial), by repeat (first | (with_reducible first | exact HB.out | apply below_alloc | apply pw_below_drewN | apply below_drew1) | exact HB.out)⟩
end Go.Proofs.Ytgeldmhgbnamcaa.P
end
section
-- Printed by the session's own turn of the print (wip/tools/print2.sh): some callees are proved by hand.
namespace Go.Proofs.Ytgeldmhgbnamcaa.P
open Go.RowKit Go.Proofs.YtgeldmhgbnamcaaW.PrintWords Go.Proofs.YtgeldmhgbnamcaaW.PrintLast Go.Proofs.YtgeldmhgbnamcaaW.PrintMore
attribute [local go_sem] max2_int min2_int max_two min_two max_three min_three max_four min_four   -- for this text's walks alone
set_option linter.unusedVariables false
set_option linter.unusedSimpArgs false
/-! ### marchlandlaw03_told: function 17 -/
def marchlandlaw03_told.f (k : Nat)  : Option (Bool) := (batch_Pack.f k (([(⟨1, 5, 2⟩ : S50), (⟨0, 7, 1⟩ : S50), (⟨1, 5, (-2)⟩ : S50)] : List (S50)))).bind fun bt235 => ((batch_Pack.f k (([(⟨64, 0, 0⟩ : S50)] : List (S50)))).bind fun bt242 => (if bt235.2 = 0 then (if (bt235.1.length : Int) = 1 then (if 0 < (bt235.1.length : Int) then (if ((rd_T50 bt235.1 0).f1) = 7 then (if bt242.2 = 2 then ((batch_Of.f k bt235.1 0 7).bind fun t247 => (if t247 = 1 then ((batch_Right.f k bt235.1).bind fun t248 => (some t248)) else (some false))) else (some false)) else (some false)) else (none)) else (some false)) else (some false)))
theorem marchlandlaw03_told.mono : ∀ k, LeO (marchlandlaw03_told.f k ) (marchlandlaw03_told.f (k + 1) ) := by
 intro  k
 unfold marchlandlaw03_told.f
 repeat' first
   | (with_reducible exact batch_Of.mono _ _ _ _)
   | (with_reducible exact batch_Pack.mono _ _)
   | (with_reducible exact batch_Right.mono _ _)
   | (with_reducible exact LeO.refl _)
   | (with_reducible exact LeO.none _)
   | (with_reducible refine LeO.ite ?_ ?_)
   | (with_reducible refine LeO.bind ?_ (fun _ => ?_))
   | exact batch_Of.mono _ _ _ _
   | exact batch_Pack.mono _ _
   | exact batch_Right.mono _ _
   | exact LeO.none _
   | refine LeO.ite ?_ ?_
   | refine LeO.bind ?_ (fun _ => ?_)
set_option maxHeartbeats 8000000 in
set_option maxRecDepth 100000 in
theorem marchlandlaw03_told.calls (k : Nat)  (r : Bool) (w : World) (h : marchlandlaw03_told.f k  = some r) :
  Calls Try.prog 17 #[] w fun e w' => e = .returned (.bool r) ∧ Below w.heap.size w w' := by
 have hu50 := Try.underlying50
 have HB := Aside0.mk (Below.refl w.heap.size w)
 have H : ((batch_Pack.f k (([(⟨1, 5, 2⟩ : S50), (⟨0, 7, 1⟩ : S50), (⟨1, 5, (-2)⟩ : S50)] : List (S50)))).bind fun bt235 => ((batch_Pack.f k (([(⟨64, 0, 0⟩ : S50)] : List (S50)))).bind fun bt242 => (if bt235.2 = 0 then (if (bt235.1.length : Int) = 1 then (if 0 < (bt235.1.length : Int) then (if ((rd_T50 bt235.1 0).f1) = 7 then (if bt242.2 = 2 then ((batch_Of.f k bt235.1 0 7).bind fun t247 => (if t247 = 1 then ((batch_Right.f k bt235.1).bind fun t248 => (some t248)) else (some false))) else (some false)) else (some false)) else (none)) else (some false)) else (some false)))) = some r := h
 clear h
 obtain ⟨y232, hy232⟩ : ∃ y_ : List (S50), y_ = (([(⟨1, 5, 2⟩ : S50), (⟨0, 7, 1⟩ : S50), (⟨1, 5, (-2)⟩ : S50)] : List (S50))) := ⟨_, rfl⟩
 replace H : ((batch_Pack.f k y232).bind fun bt235 => ((batch_Pack.f k (([(⟨64, 0, 0⟩ : S50)] : List (S50)))).bind fun bt242 => (if bt235.2 = 0 then (if (bt235.1.length : Int) = 1 then (if 0 < (bt235.1.length : Int) then (if ((rd_T50 bt235.1 0).f1) = 7 then (if bt242.2 = 2 then ((batch_Of.f k bt235.1 0 7).bind fun t247 => (if t247 = 1 then ((batch_Right.f k bt235.1).bind fun t248 => (some t248)) else (some false))) else (some false)) else (some false)) else (none)) else (some false)) else (some false)))) = some r := by first | (rw [hy232]; with_reducible exact H) | (have H2_ := (Option.bind_some _ _).symm.trans H; rw [hy232]; with_reducible exact H2_) | (have H2_ := (Option.bind_some _ _).symm.trans H; with_reducible exact H2_) | with_reducible exact H | (rw [hy232]; exact H) | exact H
 have Ny232 := Aside0.mk hy232
 clear hy232
 replace H := Option.bind_eq_some_iff.mp H
 obtain ⟨⟨t235, t236⟩, A10, H⟩ := H
 replace H : ((batch_Pack.f k (([(⟨64, 0, 0⟩ : S50)] : List (S50)))).bind fun bt242 => (if t236 = 0 then (if (t235.length : Int) = 1 then (if 0 < (t235.length : Int) then (if ((rd_T50 t235 0).f1) = 7 then (if bt242.2 = 2 then ((batch_Of.f k t235 0 7).bind fun t247 => (if t247 = 1 then ((batch_Right.f k t235).bind fun t248 => (some t248)) else (some false))) else (some false)) else (some false)) else (none)) else (some false)) else (some false))) = some r := H
 have A1 := Aside0.mk A10
 clear A10
 obtain ⟨y239, hy239⟩ : ∃ y_ : List (S50), y_ = (([(⟨64, 0, 0⟩ : S50)] : List (S50))) := ⟨_, rfl⟩
 replace H : ((batch_Pack.f k y239).bind fun bt242 => (if t236 = 0 then (if (t235.length : Int) = 1 then (if 0 < (t235.length : Int) then (if ((rd_T50 t235 0).f1) = 7 then (if bt242.2 = 2 then ((batch_Of.f k t235 0 7).bind fun t247 => (if t247 = 1 then ((batch_Right.f k t235).bind fun t248 => (some t248)) else (some false))) else (some false)) else (some false)) else (none)) else (some false)) else (some false))) = some r := by first | (rw [hy239]; with_reducible exact H) | (have H2_ := (Option.bind_some _ _).symm.trans H; rw [hy239]; with_reducible exact H2_) | (have H2_ := (Option.bind_some _ _).symm.trans H; with_reducible exact H2_) | with_reducible exact H | (rw [hy239]; exact H) | exact H
 have Ny239 := Aside0.mk hy239
 clear hy239
 replace H := Option.bind_eq_some_iff.mp H
 obtain ⟨⟨t242, t243⟩, A20, H⟩ := H
 replace H : (if t236 = 0 then (if (t235.length : Int) = 1 then (if 0 < (t235.length : Int) then (if ((rd_T50 t235 0).f1) = 7 then (if t243 = 2 then ((batch_Of.f k t235 0 7).bind fun t247 => (if t247 = 1 then ((batch_Right.f k t235).bind fun t248 => (some t248)) else (some false))) else (some false)) else (some false)) else (none)) else (some false)) else (some false)) = some r := H
 have A2 := Aside0.mk A20
 clear A20
 by_cases c3 : t236 = 0
 ·rw [if_pos c3] at H
  have c3b0 : (t236 == 0) = true := beq_iff_eq.mpr c3
  have c3b1 : (t236 != 0) = false := bne_eq_false_iff_eq.mpr c3
  clear c3
  by_cases c4 : (t235.length : Int) = 1
  ·rw [if_pos c4] at H
   have c4b0 : ((t235.length : Int) == 1) = true := beq_iff_eq.mpr c4
   have c4b1 : ((t235.length : Int) != 1) = false := bne_eq_false_iff_eq.mpr c4
   clear c4
   by_cases c5 : 0 < (t235.length : Int)
   ·rw [if_pos c5] at H
    have c5b0 : decide (0 < (t235.length : Int)) = true := decide_eq_true c5
    have c5b1 : decide (0 < t235.length) = true := decide_eq_true (by omega)
    clear c5
    by_cases c6 : ((rd_T50 t235 0).f1) = 7
    ·rw [if_pos c6] at H
     have c6b0 : (((rd_T50 t235 0).f1) == 7) = true := beq_iff_eq.mpr c6
     have c6b1 : (((rd_T50 t235 0).f1) != 7) = false := bne_eq_false_iff_eq.mpr c6
     clear c6
     by_cases c7 : t243 = 2
     ·rw [if_pos c7] at H
      have c7b0 : (t243 == 2) = true := beq_iff_eq.mpr c7
      have c7b1 : (t243 != 2) = false := bne_eq_false_iff_eq.mpr c7
      clear c7
      replace H := Option.bind_eq_some_iff.mp H
      obtain ⟨t247, A80, H⟩ := H
      replace H : (if t247 = 1 then ((batch_Right.f k t235).bind fun t248 => (some t248)) else (some false)) = some r := H
      have A8 := Aside0.mk A80
      clear A80
      by_cases c9 : t247 = 1
      ·rw [if_pos c9] at H
       have c9b0 : (t247 == 1) = true := beq_iff_eq.mpr c9
       have c9b1 : (t247 != 1) = false := bne_eq_false_iff_eq.mpr c9
       clear c9
       replace H := Option.bind_eq_some_iff.mp H
       obtain ⟨t248, A100, H⟩ := H
       replace H : (some t248) = some r := H
       have A10 := Aside0.mk A100
       clear A100
       obtain rfl := Option.some.inj H
       go_enter Try.func17, Try.ntmps17
       go_wp2_with (first | ((with_reducible refine gate_dst (N := 9) rfl ?_); (try (refine gate_guard (by rfl) ?_; dsimp only)); refine Kd.R_lit k50 _ 50 ?hg (N := 9) ?hd (xs := ([(⟨1, 5, 2⟩ : S50), (⟨0, 7, 1⟩ : S50), (⟨1, 5, (-2)⟩ : S50)] : List (S50))) (inner := [.int .i64 1, .int .u64 5, .int .i64 2, .int .i64 0, .int .u64 7, .int .i64 1, .int .i64 1, .int .u64 5, .int .i64 (-2)]) (ok := fun _ => True) (okp := fun _ => True) ?hr ?hp (fun _ hk => hk) trivial (Below.refl _ _) (Nat.le_refl _) (by simp) ?_; (case hd => rfl); (case hg => rfl); (case hr => first | (go_simp; done) | (go_simp; rfl)); (case hp => exact (Reps.c3 (show Kd.M k50 _ _ _ (⟨1, 5, 2⟩ : S50) [.int .i64 1, .int .u64 5, .int .i64 2] from (k50_mkM _ _ _ (⟨1, 5, 2⟩ : S50) )) (Reps.c3 (show Kd.M k50 _ _ _ (⟨0, 7, 1⟩ : S50) [.int .i64 0, .int .u64 7, .int .i64 1] from (k50_mkM _ _ _ (⟨0, 7, 1⟩ : S50) )) (Reps.c3 (show Kd.M k50 _ _ _ (⟨1, 5, (-2)⟩ : S50) [.int .i64 1, .int .u64 5, .int .i64 (-2)] from (k50_mkM _ _ _ (⟨1, 5, (-2)⟩ : S50) )) (Reps.none _ _))))); intro v233 w11 ho12 hb hg_ hnew_; clear hg_ hnew_; (first | rw [← Ny232.out] at ho12 | (simp only [Int.reduceToNat] at ho12; rw [← Ny232.out] at ho12)); have n0_ := Aside0.mk (Kd.R_lower ho12 (below_size (bn HB))); have HO234 := n0_; replace HB := bb HB hb; clear n0_; clear hb ho12; obtain ⟨Ao13, co13, eo13⟩ := Kd.R_slice HO234.out; subst eo13) | ((with_reducible refine gate_callee (f := 15) rfl ?_); refine gl (some 10) Try.func15 #[.slice Ao13 y232.length co13] ?_; (with_reducible refine (batch_Pack.calls k _ _ y232 t235 t236 _ ?side1 ?side2 A1.out).mono ?_); (case side1 => exact rc HO234); (case side2 => exact rs HO234); rintro e w14 ⟨v237, rfl, ho0, hb⟩; refine ⟨_, rfl, ?_⟩; have n1_ := Aside0.mk (Kd.R_lower (Kd.R_new' ho0 (Kd.R_lt (rn HO234))) (below_size (bn HB))); replace HO234 := rl HO234 (Kd.R_base ho0) hb; have HO238 := n1_; replace HB := bb HB hb; clear n1_; (try clear hb); (try clear ho0)) | ((with_reducible refine gate_dst (N := 15) rfl ?_); (try (refine gate_guard (by rfl) ?_; dsimp only)); refine Kd.R_lit k50 _ 50 ?hg (N := 15) ?hd (xs := ([(⟨64, 0, 0⟩ : S50)] : List (S50))) (inner := [.int .i64 64, .int .u64 0, .int .i64 0]) (ok := fun _ => True) (okp := fun _ => True) ?hr ?hp (fun _ hk => hk) trivial (Below.refl _ _) (Nat.le_refl _) (by simp) ?_; (case hd => rfl); (case hg => rfl); (case hr => first | (go_simp; done) | (go_simp; rfl)); (case hp => exact (Reps.c3 (show Kd.M k50 _ _ _ (⟨64, 0, 0⟩ : S50) [.int .i64 64, .int .u64 0, .int .i64 0] from (k50_mkM _ _ _ (⟨64, 0, 0⟩ : S50) )) (Reps.none _ _))); intro v240 w15 ho16 hb hg_ hnew_; clear hg_ hnew_; (first | rw [← Ny239.out] at ho16 | (simp only [Int.reduceToNat] at ho16; rw [← Ny239.out] at ho16)); have n2_ := Aside0.mk (Kd.R_lower (Kd.R_new' (Kd.R_new' ho16 (Kd.R_lt (rn HO234))) (Kd.R_lt (rn HO238))) (below_size (bn HB))); replace HO234 := rl HO234 (Kd.R_base ho16) hb; replace HO238 := rl HO238 (Kd.R_base ho16) hb; have HO241 := n2_; replace HB := bb HB hb; clear n2_; clear hb ho16; obtain ⟨Ao17, co17, eo17⟩ := Kd.R_slice HO241.out; subst eo17) | ((with_reducible refine gate_callee (f := 15) rfl ?_); refine gl (some 16) Try.func15 #[.slice Ao17 y239.length co17] ?_; (with_reducible refine (batch_Pack.calls k _ _ y239 t242 t243 _ ?side1 ?side2 A2.out).mono ?_); (case side1 => exact rc HO241); (case side2 => exact rs HO241); rintro e w18 ⟨v244, rfl, ho0, hb⟩; refine ⟨_, rfl, ?_⟩; have n3_ := Aside0.mk (Kd.R_lower (Kd.R_new' (Kd.R_new' (Kd.R_new' ho0 (Kd.R_lt (rn HO234))) (Kd.R_lt (rn HO238))) (Kd.R_lt (rn HO241))) (below_size (bn HB))); replace HO234 := rl HO234 (Kd.R_base ho0) hb; replace HO238 := rl HO238 (Kd.R_base ho0) hb; replace HO241 := rl HO241 (Kd.R_base ho0) hb; have HO245 := n3_; replace HB := bb HB hb; clear n3_; (try clear hb); (try clear ho0); obtain ⟨Ao19, co19, eo19⟩ := Kd.R_slice HO238.out; subst eo19; have p246 : 0 ≤ (0 : Int) := (by omega); have q246 : 0 < (t235.length : Int) := of_decide_eq_true (by assumption); obtain ⟨ad246, e246, hx246_0, hx246_1, hx246_2⟩ := at_T50 (Kd.R_reads' HO238.out).2.2 0 p246 q246; cases e246; have qi246 : (0 < t235.length) = True := eq_true (by omega); (try rw [show ((0 : Int)).toNat = 0 from rfl] at hx246_0); (try rw [show 0 * 3 = 0 from rfl] at hx246_0); (try rw [Addr.add_zero'] at hx246_0); (try rw [show ((0 : Int)).toNat = 0 from rfl] at hx246_1); (try rw [show 0 * 3 = 0 from rfl] at hx246_1); (try rw [Addr.add_zero'] at hx246_1); (try rw [show ((0 : Int)).toNat = 0 from rfl] at hx246_2); (try rw [show 0 * 3 = 0 from rfl] at hx246_2); (try rw [Addr.add_zero'] at hx246_2); replace p246 := eq_true p246; replace q246 := eq_true q246) | (go_at_call 23; (with_reducible refine (batch_Of.calls k _ _ t235 0 7 t247 _ ?side1 ?side2 A8.out).mono ?_); (case side1 => exact rc HO238); (case side2 => exact rs HO238); rintro e w20 ⟨rfl, hb⟩; replace HO234 := rb HO234 hb; replace HO238 := rb HO238 hb; replace HO241 := rb HO241 hb; replace HO245 := rb HO245 hb; replace HB := bb HB hb; (try clear hb)) | (go_at_call 20; (with_reducible refine (batch_Right.calls k _ _ t235 t248 _ ?side1 ?side2 A10.out).mono ?_); (case side1 => exact rc HO238); (case side2 => exact rs HO238); rintro e w21 ⟨rfl, hb⟩; replace HO234 := rb HO234 hb; replace HO238 := rb HO238 hb; replace HO241 := rb HO241 hb; replace HO245 := rb HO245 hb; replace HB := bb HB hb; (try clear hb)))
       go_ret
       exact ⟨by first | rfl | (simp [errW_none, errW_some] <;> rfl) | (simp [*, errW_none, errW_some] <;> rfl), by repeat (first | (with_reducible first | exact HB.out | apply below_alloc | apply pw_below_drewN | apply below_drew1) | exact HB.out)⟩
      ·rw [if_neg c9] at H
       have c9b0 : (t247 == 1) = false := beq_eq_false_iff_ne.mpr c9
       have c9b1 : (t247 != 1) = true := bne_iff_ne.mpr c9
       obtain rfl := Option.some.inj H
       go_enter Try.func17, Try.ntmps17
       go_wp2_with (first | ((with_reducible refine gate_dst (N := 9) rfl ?_); (try (refine gate_guard (by rfl) ?_; dsimp only)); refine Kd.R_lit k50 _ 50 ?hg (N := 9) ?hd (xs := ([(⟨1, 5, 2⟩ : S50), (⟨0, 7, 1⟩ : S50), (⟨1, 5, (-2)⟩ : S50)] : List (S50))) (inner := [.int .i64 1, .int .u64 5, .int .i64 2, .int .i64 0, .int .u64 7, .int .i64 1, .int .i64 1, .int .u64 5, .int .i64 (-2)]) (ok := fun _ => True) (okp := fun _ => True) ?hr ?hp (fun _ hk => hk) trivial (Below.refl _ _) (Nat.le_refl _) (by simp) ?_; (case hd => rfl); (case hg => rfl); (case hr => first | (go_simp; done) | (go_simp; rfl)); (case hp => exact (Reps.c3 (show Kd.M k50 _ _ _ (⟨1, 5, 2⟩ : S50) [.int .i64 1, .int .u64 5, .int .i64 2] from (k50_mkM _ _ _ (⟨1, 5, 2⟩ : S50) )) (Reps.c3 (show Kd.M k50 _ _ _ (⟨0, 7, 1⟩ : S50) [.int .i64 0, .int .u64 7, .int .i64 1] from (k50_mkM _ _ _ (⟨0, 7, 1⟩ : S50) )) (Reps.c3 (show Kd.M k50 _ _ _ (⟨1, 5, (-2)⟩ : S50) [.int .i64 1, .int .u64 5, .int .i64 (-2)] from (k50_mkM _ _ _ (⟨1, 5, (-2)⟩ : S50) )) (Reps.none _ _))))); intro v233 w22 ho23 hb hg_ hnew_; clear hg_ hnew_; (first | rw [← Ny232.out] at ho23 | (simp only [Int.reduceToNat] at ho23; rw [← Ny232.out] at ho23)); have n0_ := Aside0.mk (Kd.R_lower ho23 (below_size (bn HB))); have HO234 := n0_; replace HB := bb HB hb; clear n0_; clear hb ho23; obtain ⟨Ao24, co24, eo24⟩ := Kd.R_slice HO234.out; subst eo24) | ((with_reducible refine gate_callee (f := 15) rfl ?_); refine gl (some 10) Try.func15 #[.slice Ao24 y232.length co24] ?_; (with_reducible refine (batch_Pack.calls k _ _ y232 t235 t236 _ ?side1 ?side2 A1.out).mono ?_); (case side1 => exact rc HO234); (case side2 => exact rs HO234); rintro e w25 ⟨v237, rfl, ho0, hb⟩; refine ⟨_, rfl, ?_⟩; have n1_ := Aside0.mk (Kd.R_lower (Kd.R_new' ho0 (Kd.R_lt (rn HO234))) (below_size (bn HB))); replace HO234 := rl HO234 (Kd.R_base ho0) hb; have HO238 := n1_; replace HB := bb HB hb; clear n1_; (try clear hb); (try clear ho0)) | ((with_reducible refine gate_dst (N := 15) rfl ?_); (try (refine gate_guard (by rfl) ?_; dsimp only)); refine Kd.R_lit k50 _ 50 ?hg (N := 15) ?hd (xs := ([(⟨64, 0, 0⟩ : S50)] : List (S50))) (inner := [.int .i64 64, .int .u64 0, .int .i64 0]) (ok := fun _ => True) (okp := fun _ => True) ?hr ?hp (fun _ hk => hk) trivial (Below.refl _ _) (Nat.le_refl _) (by simp) ?_; (case hd => rfl); (case hg => rfl); (case hr => first | (go_simp; done) | (go_simp; rfl)); (case hp => exact (Reps.c3 (show Kd.M k50 _ _ _ (⟨64, 0, 0⟩ : S50) [.int .i64 64, .int .u64 0, .int .i64 0] from (k50_mkM _ _ _ (⟨64, 0, 0⟩ : S50) )) (Reps.none _ _))); intro v240 w26 ho27 hb hg_ hnew_; clear hg_ hnew_; (first | rw [← Ny239.out] at ho27 | (simp only [Int.reduceToNat] at ho27; rw [← Ny239.out] at ho27)); have n2_ := Aside0.mk (Kd.R_lower (Kd.R_new' (Kd.R_new' ho27 (Kd.R_lt (rn HO234))) (Kd.R_lt (rn HO238))) (below_size (bn HB))); replace HO234 := rl HO234 (Kd.R_base ho27) hb; replace HO238 := rl HO238 (Kd.R_base ho27) hb; have HO241 := n2_; replace HB := bb HB hb; clear n2_; clear hb ho27; obtain ⟨Ao28, co28, eo28⟩ := Kd.R_slice HO241.out; subst eo28) | ((with_reducible refine gate_callee (f := 15) rfl ?_); refine gl (some 16) Try.func15 #[.slice Ao28 y239.length co28] ?_; (with_reducible refine (batch_Pack.calls k _ _ y239 t242 t243 _ ?side1 ?side2 A2.out).mono ?_); (case side1 => exact rc HO241); (case side2 => exact rs HO241); rintro e w29 ⟨v244, rfl, ho0, hb⟩; refine ⟨_, rfl, ?_⟩; have n3_ := Aside0.mk (Kd.R_lower (Kd.R_new' (Kd.R_new' (Kd.R_new' ho0 (Kd.R_lt (rn HO234))) (Kd.R_lt (rn HO238))) (Kd.R_lt (rn HO241))) (below_size (bn HB))); replace HO234 := rl HO234 (Kd.R_base ho0) hb; replace HO238 := rl HO238 (Kd.R_base ho0) hb; replace HO241 := rl HO241 (Kd.R_base ho0) hb; have HO245 := n3_; replace HB := bb HB hb; clear n3_; (try clear hb); (try clear ho0); obtain ⟨Ao30, co30, eo30⟩ := Kd.R_slice HO238.out; subst eo30; have p246 : 0 ≤ (0 : Int) := (by omega); have q246 : 0 < (t235.length : Int) := of_decide_eq_true (by assumption); obtain ⟨ad246, e246, hx246_0, hx246_1, hx246_2⟩ := at_T50 (Kd.R_reads' HO238.out).2.2 0 p246 q246; cases e246; have qi246 : (0 < t235.length) = True := eq_true (by omega); (try rw [show ((0 : Int)).toNat = 0 from rfl] at hx246_0); (try rw [show 0 * 3 = 0 from rfl] at hx246_0); (try rw [Addr.add_zero'] at hx246_0); (try rw [show ((0 : Int)).toNat = 0 from rfl] at hx246_1); (try rw [show 0 * 3 = 0 from rfl] at hx246_1); (try rw [Addr.add_zero'] at hx246_1); (try rw [show ((0 : Int)).toNat = 0 from rfl] at hx246_2); (try rw [show 0 * 3 = 0 from rfl] at hx246_2); (try rw [Addr.add_zero'] at hx246_2); replace p246 := eq_true p246; replace q246 := eq_true q246) | (go_at_call 23; (with_reducible refine (batch_Of.calls k _ _ t235 0 7 t247 _ ?side1 ?side2 A8.out).mono ?_); (case side1 => exact rc HO238); (case side2 => exact rs HO238); rintro e w31 ⟨rfl, hb⟩; replace HO234 := rb HO234 hb; replace HO238 := rb HO238 hb; replace HO241 := rb HO241 hb; replace HO245 := rb HO245 hb; replace HB := bb HB hb; (try clear hb)))
       go_ret
       exact ⟨by first | rfl | (simp [errW_none, errW_some] <;> rfl) | (simp [*, errW_none, errW_some] <;> rfl), by repeat (first | (with_reducible first | exact HB.out | apply below_alloc | apply pw_below_drewN | apply below_drew1) | exact HB.out)⟩
     ·rw [if_neg c7] at H
      have c7b0 : (t243 == 2) = false := beq_eq_false_iff_ne.mpr c7
      have c7b1 : (t243 != 2) = true := bne_iff_ne.mpr c7
      obtain rfl := Option.some.inj H
      go_enter Try.func17, Try.ntmps17
      go_wp2_with (first | ((with_reducible refine gate_dst (N := 9) rfl ?_); (try (refine gate_guard (by rfl) ?_; dsimp only)); refine Kd.R_lit k50 _ 50 ?hg (N := 9) ?hd (xs := ([(⟨1, 5, 2⟩ : S50), (⟨0, 7, 1⟩ : S50), (⟨1, 5, (-2)⟩ : S50)] : List (S50))) (inner := [.int .i64 1, .int .u64 5, .int .i64 2, .int .i64 0, .int .u64 7, .int .i64 1, .int .i64 1, .int .u64 5, .int .i64 (-2)]) (ok := fun _ => True) (okp := fun _ => True) ?hr ?hp (fun _ hk => hk) trivial (Below.refl _ _) (Nat.le_refl _) (by simp) ?_; (case hd => rfl); (case hg => rfl); (case hr => first | (go_simp; done) | (go_simp; rfl)); (case hp => exact (Reps.c3 (show Kd.M k50 _ _ _ (⟨1, 5, 2⟩ : S50) [.int .i64 1, .int .u64 5, .int .i64 2] from (k50_mkM _ _ _ (⟨1, 5, 2⟩ : S50) )) (Reps.c3 (show Kd.M k50 _ _ _ (⟨0, 7, 1⟩ : S50) [.int .i64 0, .int .u64 7, .int .i64 1] from (k50_mkM _ _ _ (⟨0, 7, 1⟩ : S50) )) (Reps.c3 (show Kd.M k50 _ _ _ (⟨1, 5, (-2)⟩ : S50) [.int .i64 1, .int .u64 5, .int .i64 (-2)] from (k50_mkM _ _ _ (⟨1, 5, (-2)⟩ : S50) )) (Reps.none _ _))))); intro v233 w32 ho33 hb hg_ hnew_; clear hg_ hnew_; (first | rw [← Ny232.out] at ho33 | (simp only [Int.reduceToNat] at ho33; rw [← Ny232.out] at ho33)); have n0_ := Aside0.mk (Kd.R_lower ho33 (below_size (bn HB))); have HO234 := n0_; replace HB := bb HB hb; clear n0_; clear hb ho33; obtain ⟨Ao34, co34, eo34⟩ := Kd.R_slice HO234.out; subst eo34) | ((with_reducible refine gate_callee (f := 15) rfl ?_); refine gl (some 10) Try.func15 #[.slice Ao34 y232.length co34] ?_; (with_reducible refine (batch_Pack.calls k _ _ y232 t235 t236 _ ?side1 ?side2 A1.out).mono ?_); (case side1 => exact rc HO234); (case side2 => exact rs HO234); rintro e w35 ⟨v237, rfl, ho0, hb⟩; refine ⟨_, rfl, ?_⟩; have n1_ := Aside0.mk (Kd.R_lower (Kd.R_new' ho0 (Kd.R_lt (rn HO234))) (below_size (bn HB))); replace HO234 := rl HO234 (Kd.R_base ho0) hb; have HO238 := n1_; replace HB := bb HB hb; clear n1_; (try clear hb); (try clear ho0)) | ((with_reducible refine gate_dst (N := 15) rfl ?_); (try (refine gate_guard (by rfl) ?_; dsimp only)); refine Kd.R_lit k50 _ 50 ?hg (N := 15) ?hd (xs := ([(⟨64, 0, 0⟩ : S50)] : List (S50))) (inner := [.int .i64 64, .int .u64 0, .int .i64 0]) (ok := fun _ => True) (okp := fun _ => True) ?hr ?hp (fun _ hk => hk) trivial (Below.refl _ _) (Nat.le_refl _) (by simp) ?_; (case hd => rfl); (case hg => rfl); (case hr => first | (go_simp; done) | (go_simp; rfl)); (case hp => exact (Reps.c3 (show Kd.M k50 _ _ _ (⟨64, 0, 0⟩ : S50) [.int .i64 64, .int .u64 0, .int .i64 0] from (k50_mkM _ _ _ (⟨64, 0, 0⟩ : S50) )) (Reps.none _ _))); intro v240 w36 ho37 hb hg_ hnew_; clear hg_ hnew_; (first | rw [← Ny239.out] at ho37 | (simp only [Int.reduceToNat] at ho37; rw [← Ny239.out] at ho37)); have n2_ := Aside0.mk (Kd.R_lower (Kd.R_new' (Kd.R_new' ho37 (Kd.R_lt (rn HO234))) (Kd.R_lt (rn HO238))) (below_size (bn HB))); replace HO234 := rl HO234 (Kd.R_base ho37) hb; replace HO238 := rl HO238 (Kd.R_base ho37) hb; have HO241 := n2_; replace HB := bb HB hb; clear n2_; clear hb ho37; obtain ⟨Ao38, co38, eo38⟩ := Kd.R_slice HO241.out; subst eo38) | ((with_reducible refine gate_callee (f := 15) rfl ?_); refine gl (some 16) Try.func15 #[.slice Ao38 y239.length co38] ?_; (with_reducible refine (batch_Pack.calls k _ _ y239 t242 t243 _ ?side1 ?side2 A2.out).mono ?_); (case side1 => exact rc HO241); (case side2 => exact rs HO241); rintro e w39 ⟨v244, rfl, ho0, hb⟩; refine ⟨_, rfl, ?_⟩; have n3_ := Aside0.mk (Kd.R_lower (Kd.R_new' (Kd.R_new' (Kd.R_new' ho0 (Kd.R_lt (rn HO234))) (Kd.R_lt (rn HO238))) (Kd.R_lt (rn HO241))) (below_size (bn HB))); replace HO234 := rl HO234 (Kd.R_base ho0) hb; replace HO238 := rl HO238 (Kd.R_base ho0) hb; replace HO241 := rl HO241 (Kd.R_base ho0) hb; have HO245 := n3_; replace HB := bb HB hb; clear n3_; (try clear hb); (try clear ho0); obtain ⟨Ao40, co40, eo40⟩ := Kd.R_slice HO238.out; subst eo40; have p246 : 0 ≤ (0 : Int) := (by omega); have q246 : 0 < (t235.length : Int) := of_decide_eq_true (by assumption); obtain ⟨ad246, e246, hx246_0, hx246_1, hx246_2⟩ := at_T50 (Kd.R_reads' HO238.out).2.2 0 p246 q246; cases e246; have qi246 : (0 < t235.length) = True := eq_true (by omega); (try rw [show ((0 : Int)).toNat = 0 from rfl] at hx246_0); (try rw [show 0 * 3 = 0 from rfl] at hx246_0); (try rw [Addr.add_zero'] at hx246_0); (try rw [show ((0 : Int)).toNat = 0 from rfl] at hx246_1); (try rw [show 0 * 3 = 0 from rfl] at hx246_1); (try rw [Addr.add_zero'] at hx246_1); (try rw [show ((0 : Int)).toNat = 0 from rfl] at hx246_2); (try rw [show 0 * 3 = 0 from rfl] at hx246_2); (try rw [Addr.add_zero'] at hx246_2); replace p246 := eq_true p246; replace q246 := eq_true q246))
      go_ret
      exact ⟨by first | rfl | (simp [errW_none, errW_some] <;> rfl) | (simp [*, errW_none, errW_some] <;> rfl), by repeat (first | (with_reducible first | exact HB.out | apply below_alloc | apply pw_below_drewN | apply below_drew1) | exact HB.out)⟩
    ·rw [if_neg c6] at H
     have c6b0 : (((rd_T50 t235 0).f1) == 7) = false := beq_eq_false_iff_ne.mpr c6
     have c6b1 : (((rd_T50 t235 0).f1) != 7) = true := bne_iff_ne.mpr c6
     obtain rfl := Option.some.inj H
     go_enter Try.func17, Try.ntmps17
     go_wp2_with (first | ((with_reducible refine gate_dst (N := 9) rfl ?_); (try (refine gate_guard (by rfl) ?_; dsimp only)); refine Kd.R_lit k50 _ 50 ?hg (N := 9) ?hd (xs := ([(⟨1, 5, 2⟩ : S50), (⟨0, 7, 1⟩ : S50), (⟨1, 5, (-2)⟩ : S50)] : List (S50))) (inner := [.int .i64 1, .int .u64 5, .int .i64 2, .int .i64 0, .int .u64 7, .int .i64 1, .int .i64 1, .int .u64 5, .int .i64 (-2)]) (ok := fun _ => True) (okp := fun _ => True) ?hr ?hp (fun _ hk => hk) trivial (Below.refl _ _) (Nat.le_refl _) (by simp) ?_; (case hd => rfl); (case hg => rfl); (case hr => first | (go_simp; done) | (go_simp; rfl)); (case hp => exact (Reps.c3 (show Kd.M k50 _ _ _ (⟨1, 5, 2⟩ : S50) [.int .i64 1, .int .u64 5, .int .i64 2] from (k50_mkM _ _ _ (⟨1, 5, 2⟩ : S50) )) (Reps.c3 (show Kd.M k50 _ _ _ (⟨0, 7, 1⟩ : S50) [.int .i64 0, .int .u64 7, .int .i64 1] from (k50_mkM _ _ _ (⟨0, 7, 1⟩ : S50) )) (Reps.c3 (show Kd.M k50 _ _ _ (⟨1, 5, (-2)⟩ : S50) [.int .i64 1, .int .u64 5, .int .i64 (-2)] from (k50_mkM _ _ _ (⟨1, 5, (-2)⟩ : S50) )) (Reps.none _ _))))); intro v233 w41 ho42 hb hg_ hnew_; clear hg_ hnew_; (first | rw [← Ny232.out] at ho42 | (simp only [Int.reduceToNat] at ho42; rw [← Ny232.out] at ho42)); have n0_ := Aside0.mk (Kd.R_lower ho42 (below_size (bn HB))); have HO234 := n0_; replace HB := bb HB hb; clear n0_; clear hb ho42; obtain ⟨Ao43, co43, eo43⟩ := Kd.R_slice HO234.out; subst eo43) | ((with_reducible refine gate_callee (f := 15) rfl ?_); refine gl (some 10) Try.func15 #[.slice Ao43 y232.length co43] ?_; (with_reducible refine (batch_Pack.calls k _ _ y232 t235 t236 _ ?side1 ?side2 A1.out).mono ?_); (case side1 => exact rc HO234); (case side2 => exact rs HO234); rintro e w44 ⟨v237, rfl, ho0, hb⟩; refine ⟨_, rfl, ?_⟩; have n1_ := Aside0.mk (Kd.R_lower (Kd.R_new' ho0 (Kd.R_lt (rn HO234))) (below_size (bn HB))); replace HO234 := rl HO234 (Kd.R_base ho0) hb; have HO238 := n1_; replace HB := bb HB hb; clear n1_; (try clear hb); (try clear ho0)) | ((with_reducible refine gate_dst (N := 15) rfl ?_); (try (refine gate_guard (by rfl) ?_; dsimp only)); refine Kd.R_lit k50 _ 50 ?hg (N := 15) ?hd (xs := ([(⟨64, 0, 0⟩ : S50)] : List (S50))) (inner := [.int .i64 64, .int .u64 0, .int .i64 0]) (ok := fun _ => True) (okp := fun _ => True) ?hr ?hp (fun _ hk => hk) trivial (Below.refl _ _) (Nat.le_refl _) (by simp) ?_; (case hd => rfl); (case hg => rfl); (case hr => first | (go_simp; done) | (go_simp; rfl)); (case hp => exact (Reps.c3 (show Kd.M k50 _ _ _ (⟨64, 0, 0⟩ : S50) [.int .i64 64, .int .u64 0, .int .i64 0] from (k50_mkM _ _ _ (⟨64, 0, 0⟩ : S50) )) (Reps.none _ _))); intro v240 w45 ho46 hb hg_ hnew_; clear hg_ hnew_; (first | rw [← Ny239.out] at ho46 | (simp only [Int.reduceToNat] at ho46; rw [← Ny239.out] at ho46)); have n2_ := Aside0.mk (Kd.R_lower (Kd.R_new' (Kd.R_new' ho46 (Kd.R_lt (rn HO234))) (Kd.R_lt (rn HO238))) (below_size (bn HB))); replace HO234 := rl HO234 (Kd.R_base ho46) hb; replace HO238 := rl HO238 (Kd.R_base ho46) hb; have HO241 := n2_; replace HB := bb HB hb; clear n2_; clear hb ho46; obtain ⟨Ao47, co47, eo47⟩ := Kd.R_slice HO241.out; subst eo47) | ((with_reducible refine gate_callee (f := 15) rfl ?_); refine gl (some 16) Try.func15 #[.slice Ao47 y239.length co47] ?_; (with_reducible refine (batch_Pack.calls k _ _ y239 t242 t243 _ ?side1 ?side2 A2.out).mono ?_); (case side1 => exact rc HO241); (case side2 => exact rs HO241); rintro e w48 ⟨v244, rfl, ho0, hb⟩; refine ⟨_, rfl, ?_⟩; have n3_ := Aside0.mk (Kd.R_lower (Kd.R_new' (Kd.R_new' (Kd.R_new' ho0 (Kd.R_lt (rn HO234))) (Kd.R_lt (rn HO238))) (Kd.R_lt (rn HO241))) (below_size (bn HB))); replace HO234 := rl HO234 (Kd.R_base ho0) hb; replace HO238 := rl HO238 (Kd.R_base ho0) hb; replace HO241 := rl HO241 (Kd.R_base ho0) hb; have HO245 := n3_; replace HB := bb HB hb; clear n3_; (try clear hb); (try clear ho0); obtain ⟨Ao49, co49, eo49⟩ := Kd.R_slice HO238.out; subst eo49; have p246 : 0 ≤ (0 : Int) := (by omega); have q246 : 0 < (t235.length : Int) := of_decide_eq_true (by assumption); obtain ⟨ad246, e246, hx246_0, hx246_1, hx246_2⟩ := at_T50 (Kd.R_reads' HO238.out).2.2 0 p246 q246; cases e246; have qi246 : (0 < t235.length) = True := eq_true (by omega); (try rw [show ((0 : Int)).toNat = 0 from rfl] at hx246_0); (try rw [show 0 * 3 = 0 from rfl] at hx246_0); (try rw [Addr.add_zero'] at hx246_0); (try rw [show ((0 : Int)).toNat = 0 from rfl] at hx246_1); (try rw [show 0 * 3 = 0 from rfl] at hx246_1); (try rw [Addr.add_zero'] at hx246_1); (try rw [show ((0 : Int)).toNat = 0 from rfl] at hx246_2); (try rw [show 0 * 3 = 0 from rfl] at hx246_2); (try rw [Addr.add_zero'] at hx246_2); replace p246 := eq_true p246; replace q246 := eq_true q246))
     go_ret
     exact ⟨by first | rfl | (simp [errW_none, errW_some] <;> rfl) | (simp [*, errW_none, errW_some] <;> rfl), by repeat (first | (with_reducible first | exact HB.out | apply below_alloc | apply pw_below_drewN | apply below_drew1) | exact HB.out)⟩
   ·rw [if_neg c5] at H
    exact absurd H (by simp)
  ·rw [if_neg c4] at H
   have c4b0 : ((t235.length : Int) == 1) = false := beq_eq_false_iff_ne.mpr c4
   have c4b1 : ((t235.length : Int) != 1) = true := bne_iff_ne.mpr c4
   obtain rfl := Option.some.inj H
   go_enter Try.func17, Try.ntmps17
   go_wp2_with (first | ((with_reducible refine gate_dst (N := 9) rfl ?_); (try (refine gate_guard (by rfl) ?_; dsimp only)); refine Kd.R_lit k50 _ 50 ?hg (N := 9) ?hd (xs := ([(⟨1, 5, 2⟩ : S50), (⟨0, 7, 1⟩ : S50), (⟨1, 5, (-2)⟩ : S50)] : List (S50))) (inner := [.int .i64 1, .int .u64 5, .int .i64 2, .int .i64 0, .int .u64 7, .int .i64 1, .int .i64 1, .int .u64 5, .int .i64 (-2)]) (ok := fun _ => True) (okp := fun _ => True) ?hr ?hp (fun _ hk => hk) trivial (Below.refl _ _) (Nat.le_refl _) (by simp) ?_; (case hd => rfl); (case hg => rfl); (case hr => first | (go_simp; done) | (go_simp; rfl)); (case hp => exact (Reps.c3 (show Kd.M k50 _ _ _ (⟨1, 5, 2⟩ : S50) [.int .i64 1, .int .u64 5, .int .i64 2] from (k50_mkM _ _ _ (⟨1, 5, 2⟩ : S50) )) (Reps.c3 (show Kd.M k50 _ _ _ (⟨0, 7, 1⟩ : S50) [.int .i64 0, .int .u64 7, .int .i64 1] from (k50_mkM _ _ _ (⟨0, 7, 1⟩ : S50) )) (Reps.c3 (show Kd.M k50 _ _ _ (⟨1, 5, (-2)⟩ : S50) [.int .i64 1, .int .u64 5, .int .i64 (-2)] from (k50_mkM _ _ _ (⟨1, 5, (-2)⟩ : S50) )) (Reps.none _ _))))); intro v233 w50 ho51 hb hg_ hnew_; clear hg_ hnew_; (first | rw [← Ny232.out] at ho51 | (simp only [Int.reduceToNat] at ho51; rw [← Ny232.out] at ho51)); have n0_ := Aside0.mk (Kd.R_lower ho51 (below_size (bn HB))); have HO234 := n0_; replace HB := bb HB hb; clear n0_; clear hb ho51; obtain ⟨Ao52, co52, eo52⟩ := Kd.R_slice HO234.out; subst eo52) | ((with_reducible refine gate_callee (f := 15) rfl ?_); refine gl (some 10) Try.func15 #[.slice Ao52 y232.length co52] ?_; (with_reducible refine (batch_Pack.calls k _ _ y232 t235 t236 _ ?side1 ?side2 A1.out).mono ?_); (case side1 => exact rc HO234); (case side2 => exact rs HO234); rintro e w53 ⟨v237, rfl, ho0, hb⟩; refine ⟨_, rfl, ?_⟩; have n1_ := Aside0.mk (Kd.R_lower (Kd.R_new' ho0 (Kd.R_lt (rn HO234))) (below_size (bn HB))); replace HO234 := rl HO234 (Kd.R_base ho0) hb; have HO238 := n1_; replace HB := bb HB hb; clear n1_; (try clear hb); (try clear ho0)) | ((with_reducible refine gate_dst (N := 15) rfl ?_); (try (refine gate_guard (by rfl) ?_; dsimp only)); refine Kd.R_lit k50 _ 50 ?hg (N := 15) ?hd (xs := ([(⟨64, 0, 0⟩ : S50)] : List (S50))) (inner := [.int .i64 64, .int .u64 0, .int .i64 0]) (ok := fun _ => True) (okp := fun _ => True) ?hr ?hp (fun _ hk => hk) trivial (Below.refl _ _) (Nat.le_refl _) (by simp) ?_; (case hd => rfl); (case hg => rfl); (case hr => first | (go_simp; done) | (go_simp; rfl)); (case hp => exact (Reps.c3 (show Kd.M k50 _ _ _ (⟨64, 0, 0⟩ : S50) [.int .i64 64, .int .u64 0, .int .i64 0] from (k50_mkM _ _ _ (⟨64, 0, 0⟩ : S50) )) (Reps.none _ _))); intro v240 w54 ho55 hb hg_ hnew_; clear hg_ hnew_; (first | rw [← Ny239.out] at ho55 | (simp only [Int.reduceToNat] at ho55; rw [← Ny239.out] at ho55)); have n2_ := Aside0.mk (Kd.R_lower (Kd.R_new' (Kd.R_new' ho55 (Kd.R_lt (rn HO234))) (Kd.R_lt (rn HO238))) (below_size (bn HB))); replace HO234 := rl HO234 (Kd.R_base ho55) hb; replace HO238 := rl HO238 (Kd.R_base ho55) hb; have HO241 := n2_; replace HB := bb HB hb; clear n2_; clear hb ho55; obtain ⟨Ao56, co56, eo56⟩ := Kd.R_slice HO241.out; subst eo56) | ((with_reducible refine gate_callee (f := 15) rfl ?_); refine gl (some 16) Try.func15 #[.slice Ao56 y239.length co56] ?_; (with_reducible refine (batch_Pack.calls k _ _ y239 t242 t243 _ ?side1 ?side2 A2.out).mono ?_); (case side1 => exact rc HO241); (case side2 => exact rs HO241); rintro e w57 ⟨v244, rfl, ho0, hb⟩; refine ⟨_, rfl, ?_⟩; have n3_ := Aside0.mk (Kd.R_lower (Kd.R_new' (Kd.R_new' (Kd.R_new' ho0 (Kd.R_lt (rn HO234))) (Kd.R_lt (rn HO238))) (Kd.R_lt (rn HO241))) (below_size (bn HB))); replace HO234 := rl HO234 (Kd.R_base ho0) hb; replace HO238 := rl HO238 (Kd.R_base ho0) hb; replace HO241 := rl HO241 (Kd.R_base ho0) hb; have HO245 := n3_; replace HB := bb HB hb; clear n3_; (try clear hb); (try clear ho0); obtain ⟨Ao58, co58, eo58⟩ := Kd.R_slice HO238.out; subst eo58))
   go_ret
   exact ⟨by first | rfl | (simp [errW_none, errW_some] <;> rfl) | (simp [*, errW_none, errW_some] <;> rfl), by repeat (first | (with_reducible first | exact HB.out | apply below_alloc | apply pw_below_drewN | apply below_drew1) | exact HB.out)⟩
 ·rw [if_neg c3] at H
  have c3b0 : (t236 == 0) = false := beq_eq_false_iff_ne.mpr c3
  have c3b1 : (t236 != 0) = true := bne_iff_ne.mpr c3
  obtain rfl := Option.some.inj H
  go_enter Try.func17, Try.ntmps17
  go_wp2_with (first | ((with_reducible refine gate_dst (N := 9) rfl ?_); (try (refine gate_guard (by rfl) ?_; dsimp only)); refine Kd.R_lit k50 _ 50 ?hg (N := 9) ?hd (xs := ([(⟨1, 5, 2⟩ : S50), (⟨0, 7, 1⟩ : S50), (⟨1, 5, (-2)⟩ : S50)] : List (S50))) (inner := [.int .i64 1, .int .u64 5, .int .i64 2, .int .i64 0, .int .u64 7, .int .i64 1, .int .i64 1, .int .u64 5, .int .i64 (-2)]) (ok := fun _ => True) (okp := fun _ => True) ?hr ?hp (fun _ hk => hk) trivial (Below.refl _ _) (Nat.le_refl _) (by simp) ?_; (case hd => rfl); (case hg => rfl); (case hr => first | (go_simp; done) | (go_simp; rfl)); (case hp => exact (Reps.c3 (show Kd.M k50 _ _ _ (⟨1, 5, 2⟩ : S50) [.int .i64 1, .int .u64 5, .int .i64 2] from (k50_mkM _ _ _ (⟨1, 5, 2⟩ : S50) )) (Reps.c3 (show Kd.M k50 _ _ _ (⟨0, 7, 1⟩ : S50) [.int .i64 0, .int .u64 7, .int .i64 1] from (k50_mkM _ _ _ (⟨0, 7, 1⟩ : S50) )) (Reps.c3 (show Kd.M k50 _ _ _ (⟨1, 5, (-2)⟩ : S50) [.int .i64 1, .int .u64 5, .int .i64 (-2)] from (k50_mkM _ _ _ (⟨1, 5, (-2)⟩ : S50) )) (Reps.none _ _))))); intro v233 w59 ho60 hb hg_ hnew_; clear hg_ hnew_; (first | rw [← Ny232.out] at ho60 | (simp only [Int.reduceToNat] at ho60; rw [← Ny232.out] at ho60)); have n0_ := Aside0.mk (Kd.R_lower ho60 (below_size (bn HB))); have HO234 := n0_; replace HB := bb HB hb; clear n0_; clear hb ho60; obtain ⟨Ao61, co61, eo61⟩ := Kd.R_slice HO234.out; subst eo61) | ((with_reducible refine gate_callee (f := 15) rfl ?_); refine gl (some 10) Try.func15 #[.slice Ao61 y232.length co61] ?_; (with_reducible refine (batch_Pack.calls k _ _ y232 t235 t236 _ ?side1 ?side2 A1.out).mono ?_); (case side1 => exact rc HO234); (case side2 => exact rs HO234); rintro e w62 ⟨v237, rfl, ho0, hb⟩; refine ⟨_, rfl, ?_⟩; have n1_ := Aside0.mk (Kd.R_lower (Kd.R_new' ho0 (Kd.R_lt (rn HO234))) (below_size (bn HB))); replace HO234 := rl HO234 (Kd.R_base ho0) hb; have HO238 := n1_; replace HB := bb HB hb; clear n1_; (try clear hb); (try clear ho0)) | ((with_reducible refine gate_dst (N := 15) rfl ?_); (try (refine gate_guard (by rfl) ?_; dsimp only)); refine Kd.R_lit k50 _ 50 ?hg (N := 15) ?hd (xs := ([(⟨64, 0, 0⟩ : S50)] : List (S50))) (inner := [.int .i64 64, .int .u64 0, .int .i64 0]) (ok := fun _ => True) (okp := fun _ => True) ?hr ?hp (fun _ hk => hk) trivial (Below.refl _ _) (Nat.le_refl _) (by simp) ?_; (case hd => rfl); (case hg => rfl); (case hr => first | (go_simp; done) | (go_simp; rfl)); (case hp => exact (Reps.c3 (show Kd.M k50 _ _ _ (⟨64, 0, 0⟩ : S50) [.int .i64 64, .int .u64 0, .int .i64 0] from (k50_mkM _ _ _ (⟨64, 0, 0⟩ : S50) )) (Reps.none _ _))); intro v240 w63 ho64 hb hg_ hnew_; clear hg_ hnew_; (first | rw [← Ny239.out] at ho64 | (simp only [Int.reduceToNat] at ho64; rw [← Ny239.out] at ho64)); have n2_ := Aside0.mk (Kd.R_lower (Kd.R_new' (Kd.R_new' ho64 (Kd.R_lt (rn HO234))) (Kd.R_lt (rn HO238))) (below_size (bn HB))); replace HO234 := rl HO234 (Kd.R_base ho64) hb; replace HO238 := rl HO238 (Kd.R_base ho64) hb; have HO241 := n2_; replace HB := bb HB hb; clear n2_; clear hb ho64; obtain ⟨Ao65, co65, eo65⟩ := Kd.R_slice HO241.out; subst eo65) | ((with_reducible refine gate_callee (f := 15) rfl ?_); refine gl (some 16) Try.func15 #[.slice Ao65 y239.length co65] ?_; (with_reducible refine (batch_Pack.calls k _ _ y239 t242 t243 _ ?side1 ?side2 A2.out).mono ?_); (case side1 => exact rc HO241); (case side2 => exact rs HO241); rintro e w66 ⟨v244, rfl, ho0, hb⟩; refine ⟨_, rfl, ?_⟩; have n3_ := Aside0.mk (Kd.R_lower (Kd.R_new' (Kd.R_new' (Kd.R_new' ho0 (Kd.R_lt (rn HO234))) (Kd.R_lt (rn HO238))) (Kd.R_lt (rn HO241))) (below_size (bn HB))); replace HO234 := rl HO234 (Kd.R_base ho0) hb; replace HO238 := rl HO238 (Kd.R_base ho0) hb; replace HO241 := rl HO241 (Kd.R_base ho0) hb; have HO245 := n3_; replace HB := bb HB hb; clear n3_; (try clear hb); (try clear ho0)))
  go_ret
  exact ⟨by first | rfl | (simp [errW_none, errW_some] <;> rfl) | (simp [*, errW_none, errW_some] <;> rfl), by repeat (first | (with_reducible first | exact HB.out | apply below_alloc | apply pw_below_drewN | apply below_drew1) | exact HB.out)⟩
end Go.Proofs.Ytgeldmhgbnamcaa.P
end
section
-- Printed by the session's own turn of the print (wip/tools/print2.sh): some callees are proved by hand.
namespace Go.Proofs.Ytgeldmhgbnamcaa.P
open Go.RowKit Go.Proofs.YtgeldmhgbnamcaaW.PrintWords Go.Proofs.YtgeldmhgbnamcaaW.PrintLast Go.Proofs.YtgeldmhgbnamcaaW.PrintMore
attribute [local go_sem] max2_int min2_int max_two min_two max_three min_three max_four min_four   -- for this text's walks alone
set_option linter.unusedVariables false
set_option linter.unusedSimpArgs false
/-! ### marchlandref03_Minus: function 37 -/
def marchlandref03_Minus.l0 : Nat → List (S40) → List (S40) → Int → Option ((List (S40)))
 | 0, _, _, _ => none
 | k + 1, x0, x3, x4 => if x4 < (x0.length : Int) then (if 0 ≤ x4 then (if x3.length < 5864062014805 then (marchlandref03_Minus.l0 k x0 (x3 ++ [(⟨(rd_T40 x0 x4).f0, (rd_T40 x0 x4).f1, wrap64 (-((rd_T40 x0 x4).f2))⟩ : S40)]) (wrap64 (x4 + 1))) else (none)) else (none)) else (some x3)
def marchlandref03_Minus.f (k : Nat) (l0 : List (S40)) : Option ((List (S40))) := marchlandref03_Minus.l0 k l0 ([] : List (S40)) 0
def marchlandref03_Minus.T5 : Bool × List (List Nat × List Nat) := (true, [([], []), ([], []), ([], []), ([1, 2], [1, 2]), ([3], [3]), ([4], [4]), ([], []), ([], []), ([6, 7], [6, 7]), ([8], [8]), ([9], [9]), ([], []), ([], []), ([11, 12], [11, 12]), ([13], [13]), ([14], [14]), ([15], [15]), ([5, 10, 16], [5, 10, 16]), ([17], [17]), ([0, 18], [0, 18]), ([19, 19, 0, 1, 2, 3, 4, 5, 6, 7, 8, 9, 10, 11, 12, 13, 14, 15, 16, 17, 18, 19], [0, 19])])
def marchlandref03_Minus.B5 : List Nat := [0, 0, 0, 6, 14, 30, 0, 0, 192, 448, 960, 0, 0, 6144, 14336, 30720, 63488, 131070, 262142, 524287, 1048575]
theorem marchlandref03_Minus.tab5 : rtab .any (opsOf Try.f37 5) = marchlandref03_Minus.T5 := by kernel_rfl
theorem marchlandref03_Minus.bits5 : waitsOk marchlandref03_Minus.T5.2 marchlandref03_Minus.B5 = true := by kernel_rfl
set_option maxHeartbeats 8000000 in
set_option maxRecDepth 100000 in
theorem marchlandref03_Minus.calls (k : Nat) (A0 : Option Addr) (c0 : Nat) (l0 : List (S40)) (r : List (S40)) (w : World) (hr0 : Kd.C k40 w A0 l0.length l0) (hc0 : l0.length ≤ c0) (h : marchlandref03_Minus.f k l0 = some r) :
  Calls Try.prog 37 #[.slice A0 l0.length c0] w fun e w' => ∃ v0_ : Value, e = .returned (v0_) ∧ Kd.R k40 40 w' w.heap.size (fun _ => True) v0_ r ∧ Below w.heap.size w w' := by
 have hu40 := Try.underlying40
 have HR0 := Aside0.mk hr0
 have HC0 := Aside0.mk hc0
 clear hr0 hc0
 have HB := Aside0.mk (Below.refl w.heap.size w)
 have H : (marchlandref03_Minus.l0 k l0 ([] : List (S40)) 0) = some r := h
 clear h
 have H' := Aside0.mk H
 clear H
 go_enter Try.func37, Try.ntmps37
 go_wp2
 go_loopg [3, 4] k (fun kq v3 v4 w' => ∃ (x3_1 : List (S40)) (x4_1 : Int), v4 = .int .i64 x4_1 ∧ Aside0 (marchlandref03_Minus.l0 kq l0 x3_1 x4_1 = some r) ∧ Aside0 (kq ≤ k) ∧ Aside0 (Kd.R k40 40 w' w.heap.size (fun _ => True) v3 x3_1) ∧ Aside0 (Below w.heap.size w w'))
 case atStart => exact ⟨(([] : List (S40))), (0), (by first | rfl | (simp; done) | (simp [*]; done)), H', ⟨Nat.le_refl _⟩, ⟨by first | exact Kd.R_nil _ _ _ _ _ | exact Kd.N_nil _ _ _ _ _ | exact Kd.V_nil _ _ _ _ _ | exact Kd.Q_nil _ _ _ _ _ | exact Kd.S_nil _ _ _ _ _⟩, ⟨by repeat (first | (with_reducible first | exact HB.out | apply below_alloc | apply pw_below_drewN | apply below_drew1) | exact HB.out)⟩⟩
 case round =>
  clear H'
  obtain ⟨x3_1, x4_1, rfl, HA, HK1, HO_3, HB⟩ := hrel
  cases gk with
  | zero => exact absurd HA.out (by simp [marchlandref03_Minus.l0])
  | succ k1 =>
   have H := HA.out
   clear HA
   simp only [marchlandref03_Minus.l0] at H
   by_cases c2 : x4_1 < (l0.length : Int)
   ·rw [if_pos c2] at H
    have c2b0 : decide (x4_1 < (l0.length : Int)) = true := decide_eq_true c2
    clear c2
    by_cases c3 : 0 ≤ x4_1
    ·rw [if_pos c3] at H
     have c3b0 : decide (0 ≤ x4_1) = true := decide_eq_true c3
     clear c3
     by_cases c4 : x3_1.length < 5864062014805
     ·rw [if_pos c4] at H
      have LMc4 := Aside0.mk c4
      clear c4
      obtain ⟨y497, hy497⟩ : ∃ y_ : List (S40), y_ = (x3_1 ++ [(⟨(rd_T40 l0 x4_1).f0, (rd_T40 l0 x4_1).f1, wrap64 (-((rd_T40 l0 x4_1).f2))⟩ : S40)]) := ⟨_, rfl⟩
      replace H : (marchlandref03_Minus.l0 k1 l0 y497 (wrap64 (x4_1 + 1))) = some r := by first | (rw [hy497]; with_reducible exact H) | (have H2_ := (Option.bind_some _ _).symm.trans H; rw [hy497]; with_reducible exact H2_) | (have H2_ := (Option.bind_some _ _).symm.trans H; with_reducible exact H2_) | with_reducible exact H | (rw [hy497]; exact H) | exact H
      have Ny497 := Aside0.mk hy497
      clear hy497
      have H' := Aside0.mk H
      clear H
      try go_wp2
      have n0_ := Aside0.mk (Kd.R_drew HO_3.out)
      have n1_ := Aside0.mk (below_drew1 HB.out)
      clear HO_3
      clear HB
      have HO_3 := n0_
      have HB := n1_
      clear n0_ n1_
      have p494 : 0 ≤ (x4_1 : Int) := of_decide_eq_true (by assumption)
      have q494 : x4_1 < (l0.length : Int) := of_decide_eq_true (by assumption)
      obtain ⟨ad494, e494, hx494_0, hx494_1, hx494_2⟩ := at_T40 HR0.out x4_1 p494 q494
      have hw494_2 := hx494_2
      have hw494_1 := hx494_1
      have hw494_0 := hx494_0
      cases e494
      replace hx494_0 := (HB.out.cell (World.block_lt_of_cell? w _ hx494_0)).trans hx494_0
      replace hx494_1 := (HB.out.cell (World.block_lt_of_cell? w _ hx494_1)).trans hx494_1
      replace hx494_2 := (HB.out.cell (World.block_lt_of_cell? w _ hx494_2)).trans hx494_2
      replace p494 := eq_true p494
      replace q494 := eq_true q494
      have p495 : 0 ≤ (x4_1 : Int) := of_decide_eq_true (by assumption)
      have q495 : x4_1 < (l0.length : Int) := of_decide_eq_true (by assumption)
      obtain ⟨ad495, e495, hx495_0, hx495_1, hx495_2⟩ := at_T40 HR0.out x4_1 p495 q495
      have hw495_2 := hx495_2
      have hw495_1 := hx495_1
      have hw495_0 := hx495_0
      obtain rfl : ad494 = ad495 := (by injection e495)
      replace hx495_0 := (HB.out.cell (World.block_lt_of_cell? w _ hx495_0)).trans hx495_0
      replace hx495_1 := (HB.out.cell (World.block_lt_of_cell? w _ hx495_1)).trans hx495_1
      replace hx495_2 := (HB.out.cell (World.block_lt_of_cell? w _ hx495_2)).trans hx495_2
      replace p495 := eq_true p495
      replace q495 := eq_true q495
      have p496 : 0 ≤ (x4_1 : Int) := of_decide_eq_true (by assumption)
      have q496 : x4_1 < (l0.length : Int) := of_decide_eq_true (by assumption)
      obtain ⟨ad496, e496, hx496_0, hx496_1, hx496_2⟩ := at_T40 HR0.out x4_1 p496 q496
      have hw496_2 := hx496_2
      have hw496_1 := hx496_1
      have hw496_0 := hx496_0
      obtain rfl : ad494 = ad496 := (by injection e496)
      replace hx496_0 := (HB.out.cell (World.block_lt_of_cell? w _ hx496_0)).trans hx496_0
      replace hx496_1 := (HB.out.cell (World.block_lt_of_cell? w _ hx496_1)).trans hx496_1
      replace hx496_2 := (HB.out.cell (World.block_lt_of_cell? w _ hx496_2)).trans hx496_2
      replace p496 := eq_true p496
      replace q496 := eq_true q496
      refine start_ (n := 21) (S := fun w' => w'.cell? (ad494.add ((x4_1).toNat * 3)) = some (.int .i64 ((rd_T40 l0 x4_1).f0)) ∧ w'.cell? ⟨(ad494.add ((x4_1).toNat * 3)).block, (ad494.add ((x4_1).toNat * 3)).off + 1, none⟩ = some (.int .u64 ((rd_T40 l0 x4_1).f1)) ∧ w'.cell? ⟨(ad494.add ((x4_1).toNat * 3)).block, (ad494.add ((x4_1).toNat * 3)).off + 2, none⟩ = some (.int .i64 ((rd_T40 l0 x4_1).f2)) ∧ w'.cell? (ad494.add ((x4_1).toNat * 3)) = some (.int .i64 ((rd_T40 l0 x4_1).f0)) ∧ w'.cell? ⟨(ad494.add ((x4_1).toNat * 3)).block, (ad494.add ((x4_1).toNat * 3)).off + 1, none⟩ = some (.int .u64 ((rd_T40 l0 x4_1).f1)) ∧ w'.cell? ⟨(ad494.add ((x4_1).toNat * 3)).block, (ad494.add ((x4_1).toNat * 3)).off + 2, none⟩ = some (.int .i64 ((rd_T40 l0 x4_1).f2)) ∧ w'.cell? (ad494.add ((x4_1).toNat * 3)) = some (.int .i64 ((rd_T40 l0 x4_1).f0)) ∧ w'.cell? ⟨(ad494.add ((x4_1).toNat * 3)).block, (ad494.add ((x4_1).toNat * 3)).off + 1, none⟩ = some (.int .u64 ((rd_T40 l0 x4_1).f1)) ∧ w'.cell? ⟨(ad494.add ((x4_1).toNat * 3)).block, (ad494.add ((x4_1).toNat * 3)).off + 2, none⟩ = some (.int .i64 ((rd_T40 l0 x4_1).f2))) (ds := []) (mk_ 0 21) (by kernel_rfl) rfl rfl ⟨((HB.out.cell (World.block_lt_of_cell? w _ hw494_0)).trans hw494_0), ((HB.out.cell (World.block_lt_of_cell? w _ hw494_1)).trans hw494_1), ((HB.out.cell (World.block_lt_of_cell? w _ hw494_2)).trans hw494_2), ((HB.out.cell (World.block_lt_of_cell? w _ hw495_0)).trans hw495_0), ((HB.out.cell (World.block_lt_of_cell? w _ hw495_1)).trans hw495_1), ((HB.out.cell (World.block_lt_of_cell? w _ hw495_2)).trans hw495_2), ((HB.out.cell (World.block_lt_of_cell? w _ hw496_0)).trans hw496_0), ((HB.out.cell (World.block_lt_of_cell? w _ hw496_1)).trans hw496_1), ((HB.out.cell (World.block_lt_of_cell? w _ hw496_2)).trans hw496_2)⟩ (fun hHeld => ?_); refine with_tabW marchlandref03_Minus.tab5 marchlandref03_Minus.bits5 (fun HT_ HW_ => ?_)
      generalize wr.drew = w5 at HO_3 HB hx494_0 hx494_1 hx494_2 hx495_0 hx495_1 hx495_2 hx496_0 hx496_1 hx496_2 hHeld ⊢
      refine pv_ 0 11 (mk_ 1 20) HT_ ?_
      refine pv_ 1 12 (mk_ 2 19) HT_ ?_
      refine pv_ 2 13 (mk_ 3 18) HT_ ?_
      refine pv_ 3 14 (mk_ 4 17) HT_ ?_
      refine pv_ 4 15 (mk_ 5 16) HT_ ?_
      refine pv_ 6 17 #[true, true, true, true, true, false, true, false, false, false, false, false, false, false, false, false, false, false, false, false, false] HT_ ?_
      refine pv_ 7 18 #[true, true, true, true, true, false, true, true, false, false, false, false, false, false, false, false, false, false, false, false, false] HT_ ?_
      refine pv_ 8 19 #[true, true, true, true, true, false, true, true, true, false, false, false, false, false, false, false, false, false, false, false, false] HT_ ?_
      refine pv_ 9 20 #[true, true, true, true, true, false, true, true, true, true, false, false, false, false, false, false, false, false, false, false, false] HT_ ?_
      refine pv_ 11 22 #[true, true, true, true, true, false, true, true, true, true, false, true, false, false, false, false, false, false, false, false, false] HT_ ?_
      refine pv_ 12 23 #[true, true, true, true, true, false, true, true, true, true, false, true, true, false, false, false, false, false, false, false, false] HT_ ?_
      refine pv_ 13 24 #[true, true, true, true, true, false, true, true, true, true, false, true, true, true, false, false, false, false, false, false, false] HT_ ?_
      refine pv_ 14 25 #[true, true, true, true, true, false, true, true, true, true, false, true, true, true, true, false, false, false, false, false, false] HT_ ?_
      refine tv_ 5 16 #[true, true, true, true, true, true, true, true, true, true, false, true, true, true, true, false, false, false, false, false, false] HT_ HW_ hHeld (hy := by rintro w' ⟨s0, s1, s2, s3, s4, s5, s6, s7, s8⟩; go_simp; with_reducible rfl) (h := ?_)
      refine tv_ 10 21 (mk_ 15 6) HT_ HW_ hHeld (hy := by rintro w' ⟨s0, s1, s2, s3, s4, s5, s6, s7, s8⟩; go_simp; with_reducible rfl) (h := ?_)
      refine tv_ 15 26 (mk_ 16 5) HT_ HW_ hHeld (hy := by rintro w' ⟨s0, s1, s2, s3, s4, s5, s6, s7, s8⟩; go_simp; with_reducible rfl) (h := ?_)
      refine pv_ 16 27 (mk_ 17 4) HT_ ?_
      refine pv_ 17 28 (mk_ 18 3) HT_ ?_
      refine one_ (i := 18) (N := some 29) (mk_ 19 2) rfl rfl (one_of HT_.out (by kernel_rfl)) (by decide) (fun K hK => ?_)
      refine value_ (w1 := ?_) (v := ?_) (by rfl) rfl ?_ ?_
      rotate_left 2
      ·go_simp
       constructor
       ·rfl
       ·rfl
      refine hK.out _ _ ⟨(World.cell?_alloc_lt _ _ _ (World.block_lt_of_cell? _ _ (((HB.out.cell (World.block_lt_of_cell? w _ hw494_0)).trans hw494_0)))).trans (((HB.out.cell (World.block_lt_of_cell? w _ hw494_0)).trans hw494_0)), (World.cell?_alloc_lt _ _ _ (World.block_lt_of_cell? _ _ (((HB.out.cell (World.block_lt_of_cell? w _ hw494_1)).trans hw494_1)))).trans (((HB.out.cell (World.block_lt_of_cell? w _ hw494_1)).trans hw494_1)), (World.cell?_alloc_lt _ _ _ (World.block_lt_of_cell? _ _ (((HB.out.cell (World.block_lt_of_cell? w _ hw494_2)).trans hw494_2)))).trans (((HB.out.cell (World.block_lt_of_cell? w _ hw494_2)).trans hw494_2)), (World.cell?_alloc_lt _ _ _ (World.block_lt_of_cell? _ _ (((HB.out.cell (World.block_lt_of_cell? w _ hw495_0)).trans hw495_0)))).trans (((HB.out.cell (World.block_lt_of_cell? w _ hw495_0)).trans hw495_0)), (World.cell?_alloc_lt _ _ _ (World.block_lt_of_cell? _ _ (((HB.out.cell (World.block_lt_of_cell? w _ hw495_1)).trans hw495_1)))).trans (((HB.out.cell (World.block_lt_of_cell? w _ hw495_1)).trans hw495_1)), (World.cell?_alloc_lt _ _ _ (World.block_lt_of_cell? _ _ (((HB.out.cell (World.block_lt_of_cell? w _ hw495_2)).trans hw495_2)))).trans (((HB.out.cell (World.block_lt_of_cell? w _ hw495_2)).trans hw495_2)), (World.cell?_alloc_lt _ _ _ (World.block_lt_of_cell? _ _ (((HB.out.cell (World.block_lt_of_cell? w _ hw496_0)).trans hw496_0)))).trans (((HB.out.cell (World.block_lt_of_cell? w _ hw496_0)).trans hw496_0)), (World.cell?_alloc_lt _ _ _ (World.block_lt_of_cell? _ _ (((HB.out.cell (World.block_lt_of_cell? w _ hw496_1)).trans hw496_1)))).trans (((HB.out.cell (World.block_lt_of_cell? w _ hw496_1)).trans hw496_1)), (World.cell?_alloc_lt _ _ _ (World.block_lt_of_cell? _ _ (((HB.out.cell (World.block_lt_of_cell? w _ hw496_2)).trans hw496_2)))).trans (((HB.out.cell (World.block_lt_of_cell? w _ hw496_2)).trans hw496_2))⟩ (fun hHeld => ?_)
      clear hK K
      refine norm_ (a' := ?_) ?_ ?_
      rotate_left
      ·show Act.put _ (some 29) _ = _
       simp only [Act.put, List.setIfInBounds_toArray, List.set_cons_zero, List.set_cons_succ, i64_w, i32_w]
       rfl
      refine one_ (i := 19) (N := some 30) (mk_ 20 1) rfl rfl (one_of HT_.out (by kernel_rfl)) (by decide) (fun K hK => ?_)
      refine Kd.R_append_step k40 (w0 := w) w.heap.size (by rfl) (.tmp 11) (.tmp 29) 22 40 (.agg #[(.int .i64 0), (.int .u64 0), (.int .i64 0)]) 24 rfl Try.underlying22 info40 rfl (by decide) (by omega) u3 x3_1 (⟨(rd_T40 l0 x4_1).f0, (rd_T40 l0 x4_1).f1, wrap64 (-((rd_T40 l0 x4_1).f2))⟩ : S40) [.int .i64 ((rd_T40 l0 x4_1).f0), .int .u64 ((rd_T40 l0 x4_1).f1), .int .i64 (wrap64 (-((rd_T40 l0 x4_1).f2)))] (fun _ => True) (fun _ => False) rfl rfl ?aP (fun _ hk => hk.elim) ?aF ?aO ?aB ?aS ?aL ?_
      (case aP => exact k40_mkM _ _ _ (⟨(rd_T40 l0 x4_1).f0, (rd_T40 l0 x4_1).f1, wrap64 (-((rd_T40 l0 x4_1).f2))⟩ : S40))
      (case aB => exact (bn HB))
      (case aF => exact (fun _ _ => trivial))
      (case aO => exact (rn HO_3))
      (case aS => exact (below_size (bn HB)))
      (case aL => have := LMc4.out; omega)
      intro v498 w6 ho hb hg hat
      rw [← Ny497.out] at ho
      have n0_ := Aside0.mk (hb)
      have n1_ := Aside0.mk (ho)
      clear HB
      clear HO_3
      have HB := n0_
      have HO499 := n1_
      clear n0_ n1_
      clear ho hb hg hat
      refine hK.out _ _ ⟨((HB.out.cell (World.block_lt_of_cell? w _ hw494_0)).trans hw494_0), ((HB.out.cell (World.block_lt_of_cell? w _ hw494_1)).trans hw494_1), ((HB.out.cell (World.block_lt_of_cell? w _ hw494_2)).trans hw494_2), ((HB.out.cell (World.block_lt_of_cell? w _ hw495_0)).trans hw495_0), ((HB.out.cell (World.block_lt_of_cell? w _ hw495_1)).trans hw495_1), ((HB.out.cell (World.block_lt_of_cell? w _ hw495_2)).trans hw495_2), ((HB.out.cell (World.block_lt_of_cell? w _ hw496_0)).trans hw496_0), ((HB.out.cell (World.block_lt_of_cell? w _ hw496_1)).trans hw496_1), ((HB.out.cell (World.block_lt_of_cell? w _ hw496_2)).trans hw496_2)⟩ (fun hHeld => ?_)
      clear hK K
      refine norm_ (a' := ?_) ?_ ?_
      rotate_left
      ·show Act.put _ (some 30) _ = _
       simp only [Act.put, List.setIfInBounds_toArray, List.set_cons_zero, List.set_cons_succ, i64_w, i32_w]
       rfl
      refine pv_ 20 3 (mk_ 21 0) HT_ ?_
      refine done_ (done_of HT_.out (by kernel_rfl)) ?_
      try go_wp2
      go_roundg k1
      case measure => have := HK1.out; omega
      case rel => exact ⟨(y497), (wrap64 (x4_1 + 1)), (by first | rfl | (simp; done) | (simp [*]; done)), H', ⟨by have := HK1.out; omega⟩, ⟨by (with_reducible repeat (first | apply Kd.R_alloc | apply Kd.R_drewN | apply Kd.R_drew)); exact HO499.out⟩, ⟨by repeat (first | (with_reducible first | exact HB.out | apply below_alloc | apply pw_below_drewN | apply below_drew1) | exact HB.out)⟩⟩
     ·rw [if_neg c4] at H
      exact absurd H (by simp)
    ·rw [if_neg c3] at H
     exact absurd H (by simp)
   ·rw [if_neg c2] at H
    have c2b0 : decide (x4_1 < (l0.length : Int)) = false := decide_eq_false c2
    clear c2
    obtain rfl := Option.some.inj H
    go_wp2
    go_ret
    exact ⟨_, by first | rfl | (simp [errW_none, errW_some] <;> rfl) | (simp [*, errW_none, errW_some] <;> rfl), by (with_reducible repeat (first | apply Kd.R_alloc | apply Kd.R_drewN | apply Kd.R_drew)); exact HO_3.out, by repeat (first | (with_reducible first | exact HB.out | apply below_alloc | apply pw_below_drewN | apply below_drew1) | exact HB.out)⟩
end Go.Proofs.Ytgeldmhgbnamcaa.P
end
