/- Walks and laws of several statements of this seat, joined into one text; no condition. -/
import Derived.Test.YtgeldmhgbnamcaaDoorProg
import Derived.Below
import Derived.Deep.Draws
import Derived.Deep.AppendLies
import Derived.Maps.AppendAt
import Derived.OwnWalk
import Derived.Laws.BytesArg
import Derived.Laws.MakeOwn
import Derived.Laws.OwnMore
import Derived.Deep.OwnRows
import Derived.Tactics
import Derived.Lib.ConvBytes
import Derived.Laws.Slices
import Derived.WalkKit
import Derived.KernelRfl
import Derived.RowKit3
import Derived.Deep.LoopGhost
import Derived.Deep.QuietTactic
import Derived.BigQuiet
import Derived.WideLaws
import Derived.Deep.DeepCutAuto
import Derived.Deep.CutBlock
import Derived.Deep.RegionHeld3
import Derived.Laws.Rows
import Derived.Lib.AppendStr
import Derived.ArgAppend
import Derived.Laws.IdiomCopy
import Derived.OrdersHeld
import Derived.Laws.BitsLemmas
import Derived.RowKit
import Derived.Laws.StructEq
import Derived.Test.YtgeldmhgbnamcaaDoorGXa0
import Derived.Test.YtgeldmhgbnamcaaDoorGXa1
import Derived.Test.YtgeldmhgbnamcaaDoorGXa2
import Derived.Test.YtgeldmhgbnamcaaDoorGXa4
import Derived.Test.YtgeldmhgbnamcaaDoorGXa5
section
namespace Go.Proofs.YtgeldmhgbnamcaaDoor.Q
open Go.RowKit Go.Proofs.YtgeldmhgbnamcaaDoorW.PrintWords Go.Proofs.YtgeldmhgbnamcaaDoorW.PrintLast Go.Proofs.YtgeldmhgbnamcaaDoorW.PrintMore
attribute [local go_sem] max2_int min2_int max_two min_two max_three min_three max_four min_four
set_option linter.unusedVariables false
set_option linter.unusedSimpArgs false
mutual
def marchlandref05_Check.j0 : Nat → Bool → Int → List (S75) → List Int → Option ((List (S42)) × Int)
  | 0, _, _, _, _ => none
  | k + 1, x20, x284000, x284001, x284002 => if x20 = true then (some (([] : List (S42)), 2)) else (if (x284001.length : Int) > 256 then (some (([] : List (S42)), 4)) else (marchlandref05_Check.l0 k 0 x284000 x284001 x284002))
def marchlandref05_Check.l0 : Nat → Int → Int → List (S75) → List Int → Option ((List (S42)) × Int)
  | 0, _, _, _, _ => none
  | k + 1, x4, x284000, x284001, x284002 => if x4 < (x284001.length : Int) then (if 0 ≤ x4 then (if ((rd_T75 x284001 x4).f0) < 0 then (marchlandref05_Check.j2 k x4 ((rd_T75 x284001 x4).f0) true x284000 x284001 x284002) else (marchlandref05_Check.j2 k x4 ((rd_T75 x284001 x4).f0) (decide (((rd_T75 x284001 x4).f0) ≥ x284000)) x284000 x284001 x284002)) else (none)) else (if (x284002.length : Int) > 8 then (marchlandref05_Check.j3 k true x284000 x284001 x284002) else (marchlandref05_Check.j3 k (decide ((x284002.length : Int) < 1)) x284000 x284001 x284002))
def marchlandref05_Check.j2 : Nat → Int → Int → Bool → Int → List (S75) → List Int → Option ((List (S42)) × Int)
  | 0, _, _, _, _, _, _ => none
  | k + 1, x4, x5, x45, x284000, x284001, x284002 => if x45 = true then (some ((([(⟨(⟨#[101, 100, 103, 101]⟩ : ByteArray), x4⟩ : S42), (⟨(⟨#[102, 114, 111, 109]⟩ : ByteArray), x5⟩ : S42)] : List (S42))), 2)) else (if 0 ≤ x4 then (if x4 < (x284001.length : Int) then (if ((rd_T75 x284001 x4).f1) < 0 then (some ((([(⟨(⟨#[101, 100, 103, 101]⟩ : ByteArray), x4⟩ : S42), (⟨(⟨#[116, 111]⟩ : ByteArray), (rd_T75 x284001 x4).f1⟩ : S42)] : List (S42))), 2)) else (if ((rd_T75 x284001 x4).f1) ≥ x284000 then (some ((([(⟨(⟨#[101, 100, 103, 101]⟩ : ByteArray), x4⟩ : S42), (⟨(⟨#[116, 111]⟩ : ByteArray), (rd_T75 x284001 x4).f1⟩ : S42)] : List (S42))), 2)) else (marchlandref05_Check.l0 k (wrap64 (x4 + 1)) x284000 x284001 x284002))) else (none)) else (none))
def marchlandref05_Check.j3 : Nat → Bool → Int → List (S75) → List Int → Option ((List (S42)) × Int)
  | 0, _, _, _, _ => none
  | k + 1, x79, x284000, x284001, x284002 => if x79 = true then (some (([] : List (S42)), 4)) else (marchlandref05_Check.l1 k 0 x284000 x284001 x284002)
def marchlandref05_Check.l1 : Nat → Int → Int → List (S75) → List Int → Option ((List (S42)) × Int)
  | 0, _, _, _, _ => none
  | k + 1, x7, x284000, x284001, x284002 => if x7 < (x284002.length : Int) then (if 0 ≤ x7 then (if (rd x284002 x7) < 0 then (marchlandref05_Check.j5 k x7 true x284000 x284001 x284002) else (marchlandref05_Check.j5 k x7 (decide ((rd x284002 x7) ≥ x284000)) x284000 x284001 x284002)) else (none)) else ((marchlandref05_closed.f k x284000 x284001 x284002).bind fun t305 => (marchlandref05_Check.l3 k t305 0 x284000 x284001 x284002))
def marchlandref05_Check.j5 : Nat → Int → Bool → Int → List (S75) → List Int → Option ((List (S42)) × Int)
  | 0, _, _, _, _, _ => none
  | k + 1, x7, x102, x284000, x284001, x284002 => if x102 = true then (some ((([(⟨(⟨#[105, 110, 112, 117, 116]⟩ : ByteArray), x7⟩ : S42)] : List (S42))), 2)) else (marchlandref05_Check.l2 k x7 0 x284000 x284001 x284002)
def marchlandref05_Check.l2 : Nat → Int → Int → Int → List (S75) → List Int → Option ((List (S42)) × Int)
  | 0, _, _, _, _, _ => none
  | k + 1, x7, x8, x284000, x284001, x284002 => if x8 < x7 then (if 0 ≤ x8 then (if x8 < (x284002.length : Int) then (if 0 ≤ x7 then (if x7 < (x284002.length : Int) then (if (rd x284002 x8) = (rd x284002 x7) then (some ((([(⟨(⟨#[105, 110, 112, 117, 116]⟩ : ByteArray), x7⟩ : S42)] : List (S42))), 1)) else (marchlandref05_Check.l2 k x7 (wrap64 (x8 + 1)) x284000 x284001 x284002)) else (none)) else (none)) else (none)) else (none)) else (marchlandref05_Check.l1 k (wrap64 (x7 + 1)) x284000 x284001 x284002)
def marchlandref05_Check.l3 : Nat → List (List Int) → Int → Int → List (S75) → List Int → Option ((List (S42)) × Int)
  | 0, _, _, _, _, _ => none
  | k + 1, x9, x10, x284000, x284001, x284002 => if x10 < x284000 then (marchlandref05_Check.l4 k x9 x10 0 x284000 x284001 x284002) else (some (([] : List (S42)), 0))
def marchlandref05_Check.l4 : Nat → List (List Int) → Int → Int → Int → List (S75) → List Int → Option ((List (S42)) × Int)
  | 0, _, _, _, _, _, _ => none
  | k + 1, x9, x10, x11, x284000, x284001, x284002 => if x11 < (x284001.length : Int) then (if 0 ≤ x11 then (if ((rd_T75 x284001 x11).f0) = x10 then (if ((rd_T75 x284001 x11).f2) = 0 then (if 0 ≤ ((rd_T75 x284001 x11).f1) then (if ((rd_T75 x284001 x11).f1) < (x9.length : Int) then (if 0 ≤ x10 then (if x10 < ((rd_L8 x9 ((rd_T75 x284001 x11).f1)).length : Int) then (if (rd (rd_L8 x9 ((rd_T75 x284001 x11).f1)) x10) = 0 then (some ((([(⟨(⟨#[112, 111, 114, 116]⟩ : ByteArray), x10⟩ : S42)] : List (S42))), 3)) else (marchlandref05_Check.l4 k x9 x10 (wrap64 (x11 + 1)) x284000 x284001 x284002)) else (none)) else (none)) else (none)) else (none)) else (marchlandref05_Check.l4 k x9 x10 (wrap64 (x11 + 1)) x284000 x284001 x284002)) else (marchlandref05_Check.l4 k x9 x10 (wrap64 (x11 + 1)) x284000 x284001 x284002)) else (none)) else (marchlandref05_Check.l3 k x9 (wrap64 (x10 + 1)) x284000 x284001 x284002)
end
def marchlandref05_Check.f (k : Nat) (a0_0 : Int) (l0_1 : List (S75)) (l0_2 : List Int) : Option ((List (S42)) × Int) := if a0_0 < 1 then (marchlandref05_Check.j0 k true a0_0 l0_1 l0_2) else (marchlandref05_Check.j0 k (decide (a0_0 > 64)) a0_0 l0_1 l0_2)
set_option maxHeartbeats 8000000 in
set_option maxRecDepth 100000 in
theorem marchlandref05_Check.calls (k : Nat) (a0_0 : Int) (A0_1 : Option Addr) (c0_1 : Nat) (l0_1 : List (S75)) (A0_2 : Option Addr) (c0_2 : Nat) (l0_2 : List Int) (r1 : List (S42)) (r2 : Int) (w : World) (hr0_1 : Kd.C k75 w A0_1 l0_1.length l0_1) (hc0_1 : l0_1.length ≤ c0_1) (hr0_2 : Kd.C (Kd.int .i64) w A0_2 l0_2.length l0_2) (hc0_2 : l0_2.length ≤ c0_2) (h : marchlandref05_Check.f k a0_0 l0_1 l0_2 = some (r1, r2)) :
    Calls Tryd.prog 36 #[.agg #[.int .i64 a0_0, .slice A0_1 l0_1.length c0_1, .slice A0_2 l0_2.length c0_2]] w fun e w' => ∃ v0_ : Value, e = .returned (.tuple #[v0_, .int .i64 r2]) ∧ Kd.R k42 42 w' w.heap.size (fun _ => True) v0_ r1 ∧ Below w.heap.size w w' := by
  have hu59 := Tryd.underlying59
  have hu42 := Tryd.underlying42
  have hu75 := Tryd.underlying75
  have HR0_1 := Aside0.mk hr0_1
  have HC0_1 := Aside0.mk hc0_1
  clear hr0_1 hc0_1
  have HR0_2 := Aside0.mk hr0_2
  have HC0_2 := Aside0.mk hc0_2
  clear hr0_2 hc0_2
  have HB := Aside0.mk (Below.refl w.heap.size w)
  have H : (if a0_0 < 1 then (marchlandref05_Check.j0 k true a0_0 l0_1 l0_2) else (marchlandref05_Check.j0 k (decide (a0_0 > 64)) a0_0 l0_1 l0_2)) = some (r1, r2) := h
  clear h
  have HC2 := Aside0.mk H
  clear H
  go_enter Tryd.func36, Tryd.ntmps36
  go_upto_region 1 with (first | ((with_reducible refine gate_dst (N := 1) rfl ?_); (try (refine gate_guard (by rfl) ?_; dsimp only)); refine box_event ?hg (N := 1) ?hd (cs := #[.int .i64 a0_0, .slice A0_1 l0_1.length c0_1, .slice A0_2 l0_2.length c0_2]) (t := 59) ?hr ?_; (case hd => rfl); (case hg => rfl); (case hr => first | (go_simp; done) | (go_simp; rfl)); intro gb283 hg w3 hbox hb; have n0_ := Aside0.mk (below_step (by repeat (first | (with_reducible first | exact HB.out | apply below_alloc | apply pw_below_drewN | apply below_drew1) | exact HB.out)) hb); have n1_ := Aside0.mk (hbox); have n2_ := Aside0.mk ((by rw [hg]; exact (below_size (by repeat (first | (with_reducible first | exact HB.out | apply below_alloc | apply pw_below_drewN | apply below_drew1) | exact HB.out))) : w.heap.size ≤ gb283)); have n3_ := Aside0.mk ((by rw [hg]; exact (below_size (by repeat (first | (with_reducible first | exact HB.out | apply below_alloc | apply pw_below_drewN | apply below_drew1) | exact HB.out))) : w.heap.size ≤ gb283)); clear HB; have HB := n0_; have BK283 := n1_; have GW283 := n2_; have GE283 := n3_; clear n0_ n1_ n2_ n3_; clear hb hbox hg))
  repeat (go_quiet (first | ((with_reducible refine gate_dst (N := 1) rfl ?_); (try (refine gate_guard (by rfl) ?_; dsimp only)); refine box_event ?hg (N := 1) ?hd (cs := #[.int .i64 a0_0, .slice A0_1 l0_1.length c0_1, .slice A0_2 l0_2.length c0_2]) (t := 59) ?hr ?_; (case hd => rfl); (case hg => rfl); (case hr => first | (go_simp; done) | (go_simp; rfl)); intro gb283 hg w3 hbox hb; have n0_ := Aside0.mk (below_step (by repeat (first | (with_reducible first | exact HB.out | apply below_alloc | apply pw_below_drewN | apply below_drew1) | exact HB.out)) hb); have n1_ := Aside0.mk (hbox); have n2_ := Aside0.mk ((by rw [hg]; exact (below_size (by repeat (first | (with_reducible first | exact HB.out | apply below_alloc | apply pw_below_drewN | apply below_drew1) | exact HB.out))) : w.heap.size ≤ gb283)); have n3_ := Aside0.mk ((by rw [hg]; exact (below_size (by repeat (first | (with_reducible first | exact HB.out | apply below_alloc | apply pw_below_drewN | apply below_drew1) | exact HB.out))) : w.heap.size ≤ gb283)); clear HB; have HB := n0_; have BK283 := n1_; have GW283 := n2_; have GE283 := n3_; clear n0_ n1_ n2_ n3_; clear hb hbox hg)); go_upto_region 1 with (first | ((with_reducible refine gate_dst (N := 1) rfl ?_); (try (refine gate_guard (by rfl) ?_; dsimp only)); refine box_event ?hg (N := 1) ?hd (cs := #[.int .i64 a0_0, .slice A0_1 l0_1.length c0_1, .slice A0_2 l0_2.length c0_2]) (t := 59) ?hr ?_; (case hd => rfl); (case hg => rfl); (case hr => first | (go_simp; done) | (go_simp; rfl)); intro gb283 hg w3 hbox hb; have n0_ := Aside0.mk (below_step (by repeat (first | (with_reducible first | exact HB.out | apply below_alloc | apply pw_below_drewN | apply below_drew1) | exact HB.out)) hb); have n1_ := Aside0.mk (hbox); have n2_ := Aside0.mk ((by rw [hg]; exact (below_size (by repeat (first | (with_reducible first | exact HB.out | apply below_alloc | apply pw_below_drewN | apply below_drew1) | exact HB.out))) : w.heap.size ≤ gb283)); have n3_ := Aside0.mk ((by rw [hg]; exact (below_size (by repeat (first | (with_reducible first | exact HB.out | apply below_alloc | apply pw_below_drewN | apply below_drew1) | exact HB.out))) : w.heap.size ≤ gb283)); clear HB; have HB := n0_; have BK283 := n1_; have GW283 := n2_; have GE283 := n3_; clear n0_ n1_ n2_ n3_; clear hb hbox hg)))
  (try simp only [Act.put, List.setIfInBounds_toArray, List.set_cons_zero, List.set_cons_succ])
  go_cut [20] (fun v20 wc => ∃ (kq : Nat) (x20_1 : Bool), v20 = .bool x20_1 ∧ Aside0 (marchlandref05_Check.j0 kq x20_1 a0_0 l0_1 l0_2 = some (r1, r2)) ∧ Aside0 (kq ≤ k) ∧ Aside0 (wc.heap[gb283]? = some (.cells #[.int .i64 a0_0, (.slice A0_1 l0_1.length c0_1), (.slice A0_2 l0_2.length c0_2)] 59 (0, 0))) ∧ Aside0 (Below w.heap.size w wc))
  case first =>
    have H := HC2.out
    clear HC2
    by_cases c4 : a0_0 < 1
    · rw [if_pos c4] at H
      have c4b0 : decide (a0_0 < 1) = true := decide_eq_true c4
      clear c4
      (first | rw [c4b0] | (simp only [i64_w, i32_w]; rw [c4b0]) | skip)
      have H' := Aside0.mk H
      clear H
      have hcz5_0 : w3.cell? ⟨gb283, 0, none⟩ = some (.int .i64 a0_0) := (blk_cell BK283.out 0).trans rfl
      have hcz5_1 : w3.cell? ⟨gb283, 1, none⟩ = some (.slice A0_1 l0_1.length c0_1) := (blk_cell BK283.out 1).trans rfl
      have hcz5_2 : w3.cell? ⟨gb283, 2, none⟩ = some (.slice A0_2 l0_2.length c0_2) := (blk_cell BK283.out 2).trans rfl
      have hfz5_0 := blk_frozen BK283.out 0
      have hfz5_1 := blk_frozen BK283.out 1
      have hfz5_2 := blk_frozen BK283.out 2
      go_wp2
      repeat (go_quiet (fail); try go_wp2)
      go_meet
      case rel => exact ⟨_, (true), (by first | rfl | (simp; done) | (simp [*]; done)), H', ⟨by first | omega | exact Nat.le_refl _⟩, ⟨by (with_reducible repeat (first | refine blk_drewN ?_ _ | refine blk_drew ?_ | refine blk_alloc ?_ _)); exact BK283.out⟩, ⟨by repeat (first | (with_reducible first | exact HB.out | apply below_alloc | apply pw_below_drewN | apply below_drew1 | refine below_set ?_ GE283.out) | exact HB.out)⟩⟩
    · rw [if_neg c4] at H
      have c4b0 : decide (a0_0 < 1) = false := decide_eq_false c4
      clear c4
      (first | rw [c4b0] | (simp only [i64_w, i32_w]; rw [c4b0]) | skip)
      have H' := Aside0.mk H
      clear H
      have hcz6_0 : w3.cell? ⟨gb283, 0, none⟩ = some (.int .i64 a0_0) := (blk_cell BK283.out 0).trans rfl
      have hcz6_1 : w3.cell? ⟨gb283, 1, none⟩ = some (.slice A0_1 l0_1.length c0_1) := (blk_cell BK283.out 1).trans rfl
      have hcz6_2 : w3.cell? ⟨gb283, 2, none⟩ = some (.slice A0_2 l0_2.length c0_2) := (blk_cell BK283.out 2).trans rfl
      have hfz6_0 := blk_frozen BK283.out 0
      have hfz6_1 := blk_frozen BK283.out 1
      have hfz6_2 := blk_frozen BK283.out 2
      go_wp2
      repeat (go_quiet (fail); try go_wp2)
      go_meet
      case rel => exact ⟨_, (decide (a0_0 > 64)), (by first | rfl | (simp; done) | (simp [*]; done)), H', ⟨by first | omega | exact Nat.le_refl _⟩, ⟨by (with_reducible repeat (first | refine blk_drewN ?_ _ | refine blk_drew ?_ | refine blk_alloc ?_ _)); exact BK283.out⟩, ⟨by repeat (first | (with_reducible first | exact HB.out | apply below_alloc | apply pw_below_drewN | apply below_drew1 | refine below_set ?_ GE283.out) | exact HB.out)⟩⟩
  case rest =>
    clear HC2
    try clear p2
    try clear c3
    try clear c4
    try clear c4b0
    try clear hcz5_0
    try clear hcz5_1
    try clear hcz5_2
    try clear hcz6_0
    try clear hcz6_1
    try clear hcz6_2
    try clear hfz5_0
    try clear hfz5_1
    try clear hfz5_2
    try clear hfz6_0
    try clear hfz6_1
    try clear hfz6_2
    obtain ⟨kq, x20_1, rfl, HA, HJ1, BK283, HB⟩ := hcut
    cases kq with
    | zero => exact absurd HA.out (by simp [marchlandref05_Check.j0])
    | succ kj1 =>
      have H := HA.out
      clear HA
      simp only [marchlandref05_Check.j0] at H
      by_cases c7 : x20_1 = true
      · subst c7
        have H1 : (some (([] : List (S42)), 2)) = some (r1, r2) := by rw [if_pos rfl] at H; exact H
        clear H
        have H := H1
        clear H1
        simp only [Option.some.injEq, Prod.mk.injEq] at H
        obtain ⟨rfl, rfl⟩ := H
        go_wp2
        repeat (go_quiet (fail); try go_wp2)
        go_ret2
        exact ⟨_, by first | rfl | (simp [errW_none, errW_some] <;> rfl) | (simp [*, errW_none, errW_some] <;> rfl), by first | exact Kd.R_nil _ _ _ _ _ | exact Kd.N_nil _ _ _ _ _ | exact Kd.V_nil _ _ _ _ _ | exact Kd.Q_nil _ _ _ _ _ | exact Kd.S_nil _ _ _ _ _, by repeat (first | (with_reducible first | exact HB.out | apply below_alloc | apply pw_below_drewN | apply below_drew1 | refine below_set ?_ GE283.out) | exact HB.out)⟩
      · replace c7 := Bool.eq_false_iff.mpr c7
        subst c7
        have H1 : (if (l0_1.length : Int) > 256 then (some (([] : List (S42)), 4)) else (marchlandref05_Check.l0 kj1 0 a0_0 l0_1 l0_2)) = some (r1, r2) := by rw [if_neg (show ¬ (false = true) by decide)] at H; exact H
        clear H
        have H := H1
        clear H1
        by_cases c8 : (l0_1.length : Int) > 256
        · rw [if_pos c8] at H
          have c8b0 : decide (256 < (l0_1.length : Int)) = true := decide_eq_true c8
          have c8b1 : decide (256 < l0_1.length) = true := decide_eq_true (by omega)
          clear c8
          simp only [Option.some.injEq, Prod.mk.injEq] at H
          obtain ⟨rfl, rfl⟩ := H
          have hcz9_0 : wc.cell? ⟨gb283, 0, none⟩ = some (.int .i64 a0_0) := (blk_cell BK283.out 0).trans rfl
          have hcz9_1 : wc.cell? ⟨gb283, 1, none⟩ = some (.slice A0_1 l0_1.length c0_1) := (blk_cell BK283.out 1).trans rfl
          have hcz9_2 : wc.cell? ⟨gb283, 2, none⟩ = some (.slice A0_2 l0_2.length c0_2) := (blk_cell BK283.out 2).trans rfl
          have hfz9_0 := blk_frozen BK283.out 0
          have hfz9_1 := blk_frozen BK283.out 1
          have hfz9_2 := blk_frozen BK283.out 2
          go_wp2
          repeat (go_quiet (fail); try go_wp2)
          go_ret2
          exact ⟨_, by first | rfl | (simp [errW_none, errW_some] <;> rfl) | (simp [*, errW_none, errW_some] <;> rfl), by first | exact Kd.R_nil _ _ _ _ _ | exact Kd.N_nil _ _ _ _ _ | exact Kd.V_nil _ _ _ _ _ | exact Kd.Q_nil _ _ _ _ _ | exact Kd.S_nil _ _ _ _ _, by repeat (first | (with_reducible first | exact HB.out | apply below_alloc | apply pw_below_drewN | apply below_drew1 | refine below_set ?_ GE283.out) | exact HB.out)⟩
        · rw [if_neg c8] at H
          have c8b0 : decide (256 < (l0_1.length : Int)) = false := decide_eq_false c8
          have c8b1 : decide (256 < l0_1.length) = false := decide_eq_false (by omega)
          clear c8
          have H' := Aside0.mk H
          clear H
          have hcz10_0 : wc.cell? ⟨gb283, 0, none⟩ = some (.int .i64 a0_0) := (blk_cell BK283.out 0).trans rfl
          have hcz10_1 : wc.cell? ⟨gb283, 1, none⟩ = some (.slice A0_1 l0_1.length c0_1) := (blk_cell BK283.out 1).trans rfl
          have hcz10_2 : wc.cell? ⟨gb283, 2, none⟩ = some (.slice A0_2 l0_2.length c0_2) := (blk_cell BK283.out 2).trans rfl
          have hfz10_0 := blk_frozen BK283.out 0
          have hfz10_1 := blk_frozen BK283.out 1
          have hfz10_2 := blk_frozen BK283.out 2
          go_wp2
          repeat (go_quiet (fail); try go_wp2)
          go_loopg [4] kj1 (fun kq v4 w' => ∃ (x4_2 : Int), v4 = .int .i64 x4_2 ∧ Aside0 (marchlandref05_Check.l0 kq x4_2 a0_0 l0_1 l0_2 = some (r1, r2)) ∧ Aside0 (kq ≤ kj1) ∧ Aside0 (w'.heap[gb283]? = some (.cells #[.int .i64 a0_0, (.slice A0_1 l0_1.length c0_1), (.slice A0_2 l0_2.length c0_2)] 59 (0, 0))) ∧ Aside0 (Below w.heap.size w w'))
          case atStart => exact ⟨(0), (by first | rfl | (simp; done) | (simp [*]; done)), H', ⟨Nat.le_refl _⟩, ⟨by (with_reducible repeat (first | refine blk_drewN ?_ _ | refine blk_drew ?_ | refine blk_alloc ?_ _)); exact BK283.out⟩, ⟨by repeat (first | (with_reducible first | exact HB.out | apply below_alloc | apply pw_below_drewN | apply below_drew1 | refine below_set ?_ GE283.out) | exact HB.out)⟩⟩
          case round =>
            clear H'
            try clear p2
            try clear c3
            try clear c4
            try clear c4b0
            try clear c7
            try clear c8
            try clear c8b0
            try clear c8b1
            try clear hcz10_0
            try clear hcz10_1
            try clear hcz10_2
            try clear hcz5_0
            try clear hcz5_1
            try clear hcz5_2
            try clear hcz6_0
            try clear hcz6_1
            try clear hcz6_2
            try clear hcz9_0
            try clear hcz9_1
            try clear hcz9_2
            try clear hfz10_0
            try clear hfz10_1
            try clear hfz10_2
            try clear hfz5_0
            try clear hfz5_1
            try clear hfz5_2
            try clear hfz6_0
            try clear hfz6_1
            try clear hfz6_2
            try clear hfz9_0
            try clear hfz9_1
            try clear hfz9_2
            try clear p2
            obtain ⟨x4_2, rfl, HA, HK2, BK283, HB⟩ := hrel
            cases gk with
            | zero => exact absurd HA.out (by simp [marchlandref05_Check.l0])
            | succ k2 =>
              have H := HA.out
              clear HA
              simp only [marchlandref05_Check.l0] at H
              by_cases c11 : x4_2 < (l0_1.length : Int)
              · rw [if_pos c11] at H
                have c11b0 : decide (x4_2 < (l0_1.length : Int)) = true := decide_eq_true c11
                clear c11
                by_cases c12 : 0 ≤ x4_2
                · rw [if_pos c12] at H
                  have c12b0 : decide (0 ≤ x4_2) = true := decide_eq_true c12
                  clear c12
                  have HC13 := Aside0.mk H
                  clear H
                  have hcz14_0 : wr.cell? ⟨gb283, 0, none⟩ = some (.int .i64 a0_0) := (blk_cell BK283.out 0).trans rfl
                  have hcz14_1 : wr.cell? ⟨gb283, 1, none⟩ = some (.slice A0_1 l0_1.length c0_1) := (blk_cell BK283.out 1).trans rfl
                  have hcz14_2 : wr.cell? ⟨gb283, 2, none⟩ = some (.slice A0_2 l0_2.length c0_2) := (blk_cell BK283.out 2).trans rfl
                  have hfz14_0 := blk_frozen BK283.out 0
                  have hfz14_1 := blk_frozen BK283.out 1
                  have hfz14_2 := blk_frozen BK283.out 2
                  have p284 : 0 ≤ (x4_2 : Int) := of_decide_eq_true (by first | (with_reducible assumption) | assumption)
                  have q284 : x4_2 < (l0_1.length : Int) := of_decide_eq_true (by first | (with_reducible assumption) | assumption)
                  obtain ⟨ad284, e284, hx284_0, hx284_1, hx284_2⟩ := at_T75 HR0_1.out x4_2 p284 q284
                  cases e284
                  replace hx284_0 := (HB.out.cell (World.block_lt_of_cell? w _ hx284_0)).trans hx284_0
                  replace hx284_1 := (HB.out.cell (World.block_lt_of_cell? w _ hx284_1)).trans hx284_1
                  replace hx284_2 := (HB.out.cell (World.block_lt_of_cell? w _ hx284_2)).trans hx284_2
                  replace p284 := eq_true p284
                  replace q284 := eq_true q284
                  go_upto_region 9 with (fail)
                  repeat (go_quiet (fail); go_upto_region 9 with (fail))
                  go_cut [45] (fun v45 wc => ∃ (kq : Nat) (x45_12 : Bool), v45 = .bool x45_12 ∧ Aside0 (marchlandref05_Check.j2 kq x4_2 ((rd_T75 l0_1 x4_2).f0) x45_12 a0_0 l0_1 l0_2 = some (r1, r2)) ∧ Aside0 (kq ≤ k2) ∧ Aside0 (wc.heap[gb283]? = some (.cells #[.int .i64 a0_0, (.slice (some ad284) l0_1.length c0_1), (.slice A0_2 l0_2.length c0_2)] 59 (0, 0))) ∧ Aside0 (Below w.heap.size w wc))
                  case first =>
                    have H := HC13.out
                    clear HC13
                    by_cases c15 : ((rd_T75 l0_1 x4_2).f0) < 0
                    · rw [if_pos c15] at H
                      have c15b0 : decide (((rd_T75 l0_1 x4_2).f0) < 0) = true := decide_eq_true c15
                      clear c15
                      (first | rw [c15b0] | (simp only [i64_w, i32_w]; rw [c15b0]) | skip)
                      have H' := Aside0.mk H
                      clear H
                      go_wp2
                      repeat (go_quiet (fail); try go_wp2)
                      go_meet
                      case rel => exact ⟨_, (true), (by first | rfl | (simp; done) | (simp [*]; done)), H', ⟨by have := HJ1.out; have := HK2.out; first | omega | exact Nat.le_refl _⟩, ⟨by (with_reducible repeat (first | refine blk_drewN ?_ _ | refine blk_drew ?_ | refine blk_alloc ?_ _)); exact BK283.out⟩, ⟨by repeat (first | (with_reducible first | exact HB.out | apply below_alloc | apply pw_below_drewN | apply below_drew1 | refine below_set ?_ GE283.out) | exact HB.out)⟩⟩
                    · rw [if_neg c15] at H
                      have c15b0 : decide (((rd_T75 l0_1 x4_2).f0) < 0) = false := decide_eq_false c15
                      clear c15
                      (first | rw [c15b0] | (simp only [i64_w, i32_w]; rw [c15b0]) | skip)
                      have H' := Aside0.mk H
                      clear H
                      have hcz16_0 : wr.cell? ⟨gb283, 0, none⟩ = some (.int .i64 a0_0) := (blk_cell BK283.out 0).trans rfl
                      have hcz16_1 : wr.cell? ⟨gb283, 1, none⟩ = some (.slice (some ad284) l0_1.length c0_1) := (blk_cell BK283.out 1).trans rfl
                      have hcz16_2 : wr.cell? ⟨gb283, 2, none⟩ = some (.slice A0_2 l0_2.length c0_2) := (blk_cell BK283.out 2).trans rfl
                      have hfz16_0 := blk_frozen BK283.out 0
                      have hfz16_1 := blk_frozen BK283.out 1
                      have hfz16_2 := blk_frozen BK283.out 2
                      go_wp2
                      repeat (go_quiet (fail); try go_wp2)
                      go_meet
                      case rel => exact ⟨_, (decide (((rd_T75 l0_1 x4_2).f0) ≥ a0_0)), (by first | rfl | (simp; done) | (simp [*]; done)), H', ⟨by have := HJ1.out; have := HK2.out; first | omega | exact Nat.le_refl _⟩, ⟨by (with_reducible repeat (first | refine blk_drewN ?_ _ | refine blk_drew ?_ | refine blk_alloc ?_ _)); exact BK283.out⟩, ⟨by repeat (first | (with_reducible first | exact HB.out | apply below_alloc | apply pw_below_drewN | apply below_drew1 | refine below_set ?_ GE283.out) | exact HB.out)⟩⟩
                  case rest =>
                    clear HC13
                    try clear c1
                    try clear p2
                    try clear q2
                    try clear hx2
                    try clear c3
                    try clear c4
                    try clear c4b0
                    try clear c7
                    try clear c8
                    try clear c8b0
                    try clear c8b1
                    try clear c11
                    try clear c11b0
                    try clear c12
                    try clear c12b0
                    try clear c15
                    try clear c15b0
                    try clear hcz10_0
                    try clear hcz10_1
                    try clear hcz10_2
                    try clear hcz14_0
                    try clear hcz14_1
                    try clear hcz14_2
                    try clear hcz16_0
                    try clear hcz16_1
                    try clear hcz16_2
                    try clear hcz5_0
                    try clear hcz5_1
                    try clear hcz5_2
                    try clear hcz6_0
                    try clear hcz6_1
                    try clear hcz6_2
                    try clear hcz9_0
                    try clear hcz9_1
                    try clear hcz9_2
                    try clear hfz10_0
                    try clear hfz10_1
                    try clear hfz10_2
                    try clear hfz14_0
                    try clear hfz14_1
                    try clear hfz14_2
                    try clear hfz16_0
                    try clear hfz16_1
                    try clear hfz16_2
                    try clear hfz5_0
                    try clear hfz5_1
                    try clear hfz5_2
                    try clear hfz6_0
                    try clear hfz6_1
                    try clear hfz6_2
                    try clear hfz9_0
                    try clear hfz9_1
                    try clear hfz9_2
                    try clear hx284_0
                    try clear hx284_1
                    try clear hx284_2
                    try clear p2
                    try clear p284
                    try clear q284
                    obtain ⟨kq, x45_12, rfl, HA, HJ12, BK283, HB⟩ := hcut
                    cases kq with
                    | zero => exact absurd HA.out (by simp [marchlandref05_Check.j2])
                    | succ kj12 =>
                      have H := HA.out
                      clear HA
                      simp only [marchlandref05_Check.j2] at H
                      by_cases c17 : x45_12 = true
                      · subst c17
                        have H1 : (some ((([(⟨(⟨#[101, 100, 103, 101]⟩ : ByteArray), x4_2⟩ : S42), (⟨(⟨#[102, 114, 111, 109]⟩ : ByteArray), ((rd_T75 l0_1 x4_2).f0)⟩ : S42)] : List (S42))), 2)) = some (r1, r2) := by rw [if_pos rfl] at H; exact H
                        clear H
                        have H := H1
                        clear H1
                        obtain ⟨y285, hy285⟩ : ∃ y_ : List (S42), y_ = (([(⟨(⟨#[101, 100, 103, 101]⟩ : ByteArray), x4_2⟩ : S42), (⟨(⟨#[102, 114, 111, 109]⟩ : ByteArray), ((rd_T75 l0_1 x4_2).f0)⟩ : S42)] : List (S42))) := ⟨_, rfl⟩
                        replace H : (some (y285, 2)) = some (r1, r2) := by first | (rw [hy285]; with_reducible exact H) | (have H2_ := (Option.bind_some _ _).symm.trans H; rw [hy285]; with_reducible exact H2_) | (have H2_ := (Option.bind_some _ _).symm.trans H; with_reducible exact H2_) | with_reducible exact H | (rw [hy285]; exact H) | exact H
                        have Ny285 := Aside0.mk hy285
                        clear hy285
                        simp only [Option.some.injEq, Prod.mk.injEq] at H
                        obtain ⟨rfl, rfl⟩ := H
                        go_wp2_with (first | ((with_reducible refine gate_dst (N := 50) rfl ?_); (try (refine gate_guard (by rfl) ?_; dsimp only)); refine Kd.R_lit k42 _ 42 ?hg (N := 50) ?hd (xs := ([(⟨(⟨#[101, 100, 103, 101]⟩ : ByteArray), x4_2⟩ : S42), (⟨(⟨#[102, 114, 111, 109]⟩ : ByteArray), ((rd_T75 l0_1 x4_2).f0)⟩ : S42)] : List (S42))) (inner := [.string (⟨#[101, 100, 103, 101]⟩ : ByteArray), .int .i64 x4_2, .string (⟨#[102, 114, 111, 109]⟩ : ByteArray), .int .i64 ((rd_T75 l0_1 x4_2).f0)]) (ok := fun _ => True) (okp := fun _ => True) ?hr ?hp (fun _ hk => hk) trivial (Below.refl _ _) (Nat.le_refl _) (by simp) ?_; (case hd => rfl); (case hg => rfl); (case hr => first | (go_simp; done) | (go_simp; rfl)); (case hp => exact (Reps.c2 (show Kd.M k42 _ _ _ (⟨(⟨#[101, 100, 103, 101]⟩ : ByteArray), x4_2⟩ : S42) [.string (⟨#[101, 100, 103, 101]⟩ : ByteArray), .int .i64 x4_2] from (k42_mkM _ _ _ (⟨(⟨#[101, 100, 103, 101]⟩ : ByteArray), x4_2⟩ : S42) )) (Reps.c2 (show Kd.M k42 _ _ _ (⟨(⟨#[102, 114, 111, 109]⟩ : ByteArray), ((rd_T75 l0_1 x4_2).f0)⟩ : S42) [.string (⟨#[102, 114, 111, 109]⟩ : ByteArray), .int .i64 ((rd_T75 l0_1 x4_2).f0)] from (k42_mkM _ _ _ (⟨(⟨#[102, 114, 111, 109]⟩ : ByteArray), ((rd_T75 l0_1 x4_2).f0)⟩ : S42) )) (Reps.none _ _)))); intro v286 w18 ho19 hb hg_ hnew_; clear hg_ hnew_; (first | rw [← Ny285.out] at ho19 | (simp only [Int.reduceToNat] at ho19; rw [← Ny285.out] at ho19)); have n0_ := Aside0.mk (Kd.R_lower ho19 (below_size (by repeat (first | (with_reducible first | exact HB.out | apply below_alloc | apply pw_below_drewN | apply below_drew1 | refine below_set ?_ GE283.out) | exact HB.out)))); have n1_ := Aside0.mk (blk_below (g := gb283) (o := .cells #[.int .i64 a0_0, .slice (some ad284) l0_1.length c0_1, .slice A0_2 l0_2.length c0_2] 59 (0, 0)) (by (with_reducible repeat (first | refine blk_drewN ?_ _ | refine blk_drew ?_ | refine blk_alloc ?_ _)); exact BK283.out) hb); have n2_ := Aside0.mk (below_step (by repeat (first | (with_reducible first | exact HB.out | apply below_alloc | apply pw_below_drewN | apply below_drew1 | refine below_set ?_ GE283.out) | exact HB.out)) hb); clear BK283; clear HB; have HO287 := n0_; have BK283 := n1_; have HB := n2_; clear n0_ n1_ n2_; clear hb ho19))
                        repeat (go_quiet (first | ((with_reducible refine gate_dst (N := 50) rfl ?_); (try (refine gate_guard (by rfl) ?_; dsimp only)); refine Kd.R_lit k42 _ 42 ?hg (N := 50) ?hd (xs := ([(⟨(⟨#[101, 100, 103, 101]⟩ : ByteArray), x4_2⟩ : S42), (⟨(⟨#[102, 114, 111, 109]⟩ : ByteArray), ((rd_T75 l0_1 x4_2).f0)⟩ : S42)] : List (S42))) (inner := [.string (⟨#[101, 100, 103, 101]⟩ : ByteArray), .int .i64 x4_2, .string (⟨#[102, 114, 111, 109]⟩ : ByteArray), .int .i64 ((rd_T75 l0_1 x4_2).f0)]) (ok := fun _ => True) (okp := fun _ => True) ?hr ?hp (fun _ hk => hk) trivial (Below.refl _ _) (Nat.le_refl _) (by simp) ?_; (case hd => rfl); (case hg => rfl); (case hr => first | (go_simp; done) | (go_simp; rfl)); (case hp => exact (Reps.c2 (show Kd.M k42 _ _ _ (⟨(⟨#[101, 100, 103, 101]⟩ : ByteArray), x4_2⟩ : S42) [.string (⟨#[101, 100, 103, 101]⟩ : ByteArray), .int .i64 x4_2] from (k42_mkM _ _ _ (⟨(⟨#[101, 100, 103, 101]⟩ : ByteArray), x4_2⟩ : S42) )) (Reps.c2 (show Kd.M k42 _ _ _ (⟨(⟨#[102, 114, 111, 109]⟩ : ByteArray), ((rd_T75 l0_1 x4_2).f0)⟩ : S42) [.string (⟨#[102, 114, 111, 109]⟩ : ByteArray), .int .i64 ((rd_T75 l0_1 x4_2).f0)] from (k42_mkM _ _ _ (⟨(⟨#[102, 114, 111, 109]⟩ : ByteArray), ((rd_T75 l0_1 x4_2).f0)⟩ : S42) )) (Reps.none _ _)))); intro v286 w18 ho19 hb hg_ hnew_; clear hg_ hnew_; (first | rw [← Ny285.out] at ho19 | (simp only [Int.reduceToNat] at ho19; rw [← Ny285.out] at ho19)); have n0_ := Aside0.mk (Kd.R_lower ho19 (below_size (by repeat (first | (with_reducible first | exact HB.out | apply below_alloc | apply pw_below_drewN | apply below_drew1 | refine below_set ?_ GE283.out) | exact HB.out)))); have n1_ := Aside0.mk (blk_below (g := gb283) (o := .cells #[.int .i64 a0_0, .slice (some ad284) l0_1.length c0_1, .slice A0_2 l0_2.length c0_2] 59 (0, 0)) (by (with_reducible repeat (first | refine blk_drewN ?_ _ | refine blk_drew ?_ | refine blk_alloc ?_ _)); exact BK283.out) hb); have n2_ := Aside0.mk (below_step (by repeat (first | (with_reducible first | exact HB.out | apply below_alloc | apply pw_below_drewN | apply below_drew1 | refine below_set ?_ GE283.out) | exact HB.out)) hb); clear BK283; clear HB; have HO287 := n0_; have BK283 := n1_; have HB := n2_; clear n0_ n1_ n2_; clear hb ho19)); try go_wp2_with (first | ((with_reducible refine gate_dst (N := 50) rfl ?_); (try (refine gate_guard (by rfl) ?_; dsimp only)); refine Kd.R_lit k42 _ 42 ?hg (N := 50) ?hd (xs := ([(⟨(⟨#[101, 100, 103, 101]⟩ : ByteArray), x4_2⟩ : S42), (⟨(⟨#[102, 114, 111, 109]⟩ : ByteArray), ((rd_T75 l0_1 x4_2).f0)⟩ : S42)] : List (S42))) (inner := [.string (⟨#[101, 100, 103, 101]⟩ : ByteArray), .int .i64 x4_2, .string (⟨#[102, 114, 111, 109]⟩ : ByteArray), .int .i64 ((rd_T75 l0_1 x4_2).f0)]) (ok := fun _ => True) (okp := fun _ => True) ?hr ?hp (fun _ hk => hk) trivial (Below.refl _ _) (Nat.le_refl _) (by simp) ?_; (case hd => rfl); (case hg => rfl); (case hr => first | (go_simp; done) | (go_simp; rfl)); (case hp => exact (Reps.c2 (show Kd.M k42 _ _ _ (⟨(⟨#[101, 100, 103, 101]⟩ : ByteArray), x4_2⟩ : S42) [.string (⟨#[101, 100, 103, 101]⟩ : ByteArray), .int .i64 x4_2] from (k42_mkM _ _ _ (⟨(⟨#[101, 100, 103, 101]⟩ : ByteArray), x4_2⟩ : S42) )) (Reps.c2 (show Kd.M k42 _ _ _ (⟨(⟨#[102, 114, 111, 109]⟩ : ByteArray), ((rd_T75 l0_1 x4_2).f0)⟩ : S42) [.string (⟨#[102, 114, 111, 109]⟩ : ByteArray), .int .i64 ((rd_T75 l0_1 x4_2).f0)] from (k42_mkM _ _ _ (⟨(⟨#[102, 114, 111, 109]⟩ : ByteArray), ((rd_T75 l0_1 x4_2).f0)⟩ : S42) )) (Reps.none _ _)))); intro v286 w18 ho19 hb hg_ hnew_; clear hg_ hnew_; (first | rw [← Ny285.out] at ho19 | (simp only [Int.reduceToNat] at ho19; rw [← Ny285.out] at ho19)); have n0_ := Aside0.mk (Kd.R_lower ho19 (below_size (by repeat (first | (with_reducible first | exact HB.out | apply below_alloc | apply pw_below_drewN | apply below_drew1 | refine below_set ?_ GE283.out) | exact HB.out)))); have n1_ := Aside0.mk (blk_below (g := gb283) (o := .cells #[.int .i64 a0_0, .slice (some ad284) l0_1.length c0_1, .slice A0_2 l0_2.length c0_2] 59 (0, 0)) (by (with_reducible repeat (first | refine blk_drewN ?_ _ | refine blk_drew ?_ | refine blk_alloc ?_ _)); exact BK283.out) hb); have n2_ := Aside0.mk (below_step (by repeat (first | (with_reducible first | exact HB.out | apply below_alloc | apply pw_below_drewN | apply below_drew1 | refine below_set ?_ GE283.out) | exact HB.out)) hb); clear BK283; clear HB; have HO287 := n0_; have BK283 := n1_; have HB := n2_; clear n0_ n1_ n2_; clear hb ho19)))
                        go_ret2
                        exact ⟨_, by first | rfl | (simp [errW_none, errW_some] <;> rfl) | (simp [*, errW_none, errW_some] <;> rfl), by (with_reducible repeat (first | apply Kd.R_alloc | apply Kd.R_drewN | apply Kd.R_drew)); exact HO287.out, by repeat (first | (with_reducible first | exact HB.out | apply below_alloc | apply pw_below_drewN | apply below_drew1 | refine below_set ?_ GE283.out) | exact HB.out)⟩
                      · replace c17 := Bool.eq_false_iff.mpr c17
                        subst c17
                        have H1 : (if 0 ≤ x4_2 then (if x4_2 < (l0_1.length : Int) then (if ((rd_T75 l0_1 x4_2).f1) < 0 then (some ((([(⟨(⟨#[101, 100, 103, 101]⟩ : ByteArray), x4_2⟩ : S42), (⟨(⟨#[116, 111]⟩ : ByteArray), (rd_T75 l0_1 x4_2).f1⟩ : S42)] : List (S42))), 2)) else (if ((rd_T75 l0_1 x4_2).f1) ≥ a0_0 then (some ((([(⟨(⟨#[101, 100, 103, 101]⟩ : ByteArray), x4_2⟩ : S42), (⟨(⟨#[116, 111]⟩ : ByteArray), (rd_T75 l0_1 x4_2).f1⟩ : S42)] : List (S42))), 2)) else (marchlandref05_Check.l0 kj12 (wrap64 (x4_2 + 1)) a0_0 l0_1 l0_2))) else (none)) else (none)) = some (r1, r2) := by rw [if_neg (show ¬ (false = true) by decide)] at H; exact H
                        clear H
                        have H := H1
                        clear H1
                        by_cases c20 : 0 ≤ x4_2
                        · rw [if_pos c20] at H
                          have c20b0 : decide (0 ≤ x4_2) = true := decide_eq_true c20
                          clear c20
                          by_cases c21 : x4_2 < (l0_1.length : Int)
                          · rw [if_pos c21] at H
                            have c21b0 : decide (x4_2 < (l0_1.length : Int)) = true := decide_eq_true c21
                            clear c21
                            by_cases c22 : ((rd_T75 l0_1 x4_2).f1) < 0
                            · rw [if_pos c22] at H
                              have c22b0 : decide (((rd_T75 l0_1 x4_2).f1) < 0) = true := decide_eq_true c22
                              clear c22
                              obtain ⟨y289, hy289⟩ : ∃ y_ : List (S42), y_ = (([(⟨(⟨#[101, 100, 103, 101]⟩ : ByteArray), x4_2⟩ : S42), (⟨(⟨#[116, 111]⟩ : ByteArray), (rd_T75 l0_1 x4_2).f1⟩ : S42)] : List (S42))) := ⟨_, rfl⟩
                              replace H : (some (y289, 2)) = some (r1, r2) := by first | (rw [hy289]; with_reducible exact H) | (have H2_ := (Option.bind_some _ _).symm.trans H; rw [hy289]; with_reducible exact H2_) | (have H2_ := (Option.bind_some _ _).symm.trans H; with_reducible exact H2_) | with_reducible exact H | (rw [hy289]; exact H) | exact H
                              have Ny289 := Aside0.mk hy289
                              clear hy289
                              simp only [Option.some.injEq, Prod.mk.injEq] at H
                              obtain ⟨rfl, rfl⟩ := H
                              have hcz23_0 : wc.cell? ⟨gb283, 0, none⟩ = some (.int .i64 a0_0) := (blk_cell BK283.out 0).trans rfl
                              have hcz23_1 : wc.cell? ⟨gb283, 1, none⟩ = some (.slice (some ad284) l0_1.length c0_1) := (blk_cell BK283.out 1).trans rfl
                              have hcz23_2 : wc.cell? ⟨gb283, 2, none⟩ = some (.slice A0_2 l0_2.length c0_2) := (blk_cell BK283.out 2).trans rfl
                              have hfz23_0 := blk_frozen BK283.out 0
                              have hfz23_1 := blk_frozen BK283.out 1
                              have hfz23_2 := blk_frozen BK283.out 2
                              have p288 : 0 ≤ (x4_2 : Int) := of_decide_eq_true (by first | (with_reducible assumption) | assumption)
                              have q288 : x4_2 < (l0_1.length : Int) := of_decide_eq_true (by first | (with_reducible assumption) | assumption)
                              obtain ⟨ad288, e288, hx288_0, hx288_1, hx288_2⟩ := at_T75 HR0_1.out x4_2 p288 q288
                              obtain rfl : ad284 = ad288 := (by injection e288)
                              replace hx288_0 := (HB.out.cell (World.block_lt_of_cell? w _ hx288_0)).trans hx288_0
                              replace hx288_1 := (HB.out.cell (World.block_lt_of_cell? w _ hx288_1)).trans hx288_1
                              replace hx288_2 := (HB.out.cell (World.block_lt_of_cell? w _ hx288_2)).trans hx288_2
                              replace p288 := eq_true p288
                              replace q288 := eq_true q288
                              go_wp2_with (first | ((with_reducible refine gate_dst (N := 69) rfl ?_); (try (refine gate_guard (by rfl) ?_; dsimp only)); refine Kd.R_lit k42 _ 42 ?hg (N := 69) ?hd (xs := ([(⟨(⟨#[101, 100, 103, 101]⟩ : ByteArray), x4_2⟩ : S42), (⟨(⟨#[116, 111]⟩ : ByteArray), (rd_T75 l0_1 x4_2).f1⟩ : S42)] : List (S42))) (inner := [.string (⟨#[101, 100, 103, 101]⟩ : ByteArray), .int .i64 x4_2, .string (⟨#[116, 111]⟩ : ByteArray), .int .i64 ((rd_T75 l0_1 x4_2).f1)]) (ok := fun _ => True) (okp := fun _ => True) ?hr ?hp (fun _ hk => hk) trivial (Below.refl _ _) (Nat.le_refl _) (by simp) ?_; (case hd => rfl); (case hg => rfl); (case hr => first | (go_simp; done) | (go_simp; rfl)); (case hp => exact (Reps.c2 (show Kd.M k42 _ _ _ (⟨(⟨#[101, 100, 103, 101]⟩ : ByteArray), x4_2⟩ : S42) [.string (⟨#[101, 100, 103, 101]⟩ : ByteArray), .int .i64 x4_2] from (k42_mkM _ _ _ (⟨(⟨#[101, 100, 103, 101]⟩ : ByteArray), x4_2⟩ : S42) )) (Reps.c2 (show Kd.M k42 _ _ _ (⟨(⟨#[116, 111]⟩ : ByteArray), (rd_T75 l0_1 x4_2).f1⟩ : S42) [.string (⟨#[116, 111]⟩ : ByteArray), .int .i64 ((rd_T75 l0_1 x4_2).f1)] from (k42_mkM _ _ _ (⟨(⟨#[116, 111]⟩ : ByteArray), (rd_T75 l0_1 x4_2).f1⟩ : S42) )) (Reps.none _ _)))); intro v290 w24 ho25 hb hg_ hnew_; clear hg_ hnew_; (first | rw [← Ny289.out] at ho25 | (simp only [Int.reduceToNat] at ho25; rw [← Ny289.out] at ho25)); have n0_ := Aside0.mk (Kd.R_lower ho25 (below_size (by repeat (first | (with_reducible first | exact HB.out | apply below_alloc | apply pw_below_drewN | apply below_drew1 | refine below_set ?_ GE283.out) | exact HB.out)))); have n1_ := Aside0.mk (blk_below (g := gb283) (o := .cells #[.int .i64 a0_0, .slice (some ad284) l0_1.length c0_1, .slice A0_2 l0_2.length c0_2] 59 (0, 0)) (by (with_reducible repeat (first | refine blk_drewN ?_ _ | refine blk_drew ?_ | refine blk_alloc ?_ _)); exact BK283.out) hb); have n2_ := Aside0.mk (below_step (by repeat (first | (with_reducible first | exact HB.out | apply below_alloc | apply pw_below_drewN | apply below_drew1 | refine below_set ?_ GE283.out) | exact HB.out)) hb); clear BK283; clear HB; have HO291 := n0_; have BK283 := n1_; have HB := n2_; clear n0_ n1_ n2_; clear hb ho25))
                              repeat (go_quiet (first | ((with_reducible refine gate_dst (N := 69) rfl ?_); (try (refine gate_guard (by rfl) ?_; dsimp only)); refine Kd.R_lit k42 _ 42 ?hg (N := 69) ?hd (xs := ([(⟨(⟨#[101, 100, 103, 101]⟩ : ByteArray), x4_2⟩ : S42), (⟨(⟨#[116, 111]⟩ : ByteArray), (rd_T75 l0_1 x4_2).f1⟩ : S42)] : List (S42))) (inner := [.string (⟨#[101, 100, 103, 101]⟩ : ByteArray), .int .i64 x4_2, .string (⟨#[116, 111]⟩ : ByteArray), .int .i64 ((rd_T75 l0_1 x4_2).f1)]) (ok := fun _ => True) (okp := fun _ => True) ?hr ?hp (fun _ hk => hk) trivial (Below.refl _ _) (Nat.le_refl _) (by simp) ?_; (case hd => rfl); (case hg => rfl); (case hr => first | (go_simp; done) | (go_simp; rfl)); (case hp => exact (Reps.c2 (show Kd.M k42 _ _ _ (⟨(⟨#[101, 100, 103, 101]⟩ : ByteArray), x4_2⟩ : S42) [.string (⟨#[101, 100, 103, 101]⟩ : ByteArray), .int .i64 x4_2] from (k42_mkM _ _ _ (⟨(⟨#[101, 100, 103, 101]⟩ : ByteArray), x4_2⟩ : S42) )) (Reps.c2 (show Kd.M k42 _ _ _ (⟨(⟨#[116, 111]⟩ : ByteArray), (rd_T75 l0_1 x4_2).f1⟩ : S42) [.string (⟨#[116, 111]⟩ : ByteArray), .int .i64 ((rd_T75 l0_1 x4_2).f1)] from (k42_mkM _ _ _ (⟨(⟨#[116, 111]⟩ : ByteArray), (rd_T75 l0_1 x4_2).f1⟩ : S42) )) (Reps.none _ _)))); intro v290 w24 ho25 hb hg_ hnew_; clear hg_ hnew_; (first | rw [← Ny289.out] at ho25 | (simp only [Int.reduceToNat] at ho25; rw [← Ny289.out] at ho25)); have n0_ := Aside0.mk (Kd.R_lower ho25 (below_size (by repeat (first | (with_reducible first | exact HB.out | apply below_alloc | apply pw_below_drewN | apply below_drew1 | refine below_set ?_ GE283.out) | exact HB.out)))); have n1_ := Aside0.mk (blk_below (g := gb283) (o := .cells #[.int .i64 a0_0, .slice (some ad284) l0_1.length c0_1, .slice A0_2 l0_2.length c0_2] 59 (0, 0)) (by (with_reducible repeat (first | refine blk_drewN ?_ _ | refine blk_drew ?_ | refine blk_alloc ?_ _)); exact BK283.out) hb); have n2_ := Aside0.mk (below_step (by repeat (first | (with_reducible first | exact HB.out | apply below_alloc | apply pw_below_drewN | apply below_drew1 | refine below_set ?_ GE283.out) | exact HB.out)) hb); clear BK283; clear HB; have HO291 := n0_; have BK283 := n1_; have HB := n2_; clear n0_ n1_ n2_; clear hb ho25)); try go_wp2_with (first | ((with_reducible refine gate_dst (N := 69) rfl ?_); (try (refine gate_guard (by rfl) ?_; dsimp only)); refine Kd.R_lit k42 _ 42 ?hg (N := 69) ?hd (xs := ([(⟨(⟨#[101, 100, 103, 101]⟩ : ByteArray), x4_2⟩ : S42), (⟨(⟨#[116, 111]⟩ : ByteArray), (rd_T75 l0_1 x4_2).f1⟩ : S42)] : List (S42))) (inner := [.string (⟨#[101, 100, 103, 101]⟩ : ByteArray), .int .i64 x4_2, .string (⟨#[116, 111]⟩ : ByteArray), .int .i64 ((rd_T75 l0_1 x4_2).f1)]) (ok := fun _ => True) (okp := fun _ => True) ?hr ?hp (fun _ hk => hk) trivial (Below.refl _ _) (Nat.le_refl _) (by simp) ?_; (case hd => rfl); (case hg => rfl); (case hr => first | (go_simp; done) | (go_simp; rfl)); (case hp => exact (Reps.c2 (show Kd.M k42 _ _ _ (⟨(⟨#[101, 100, 103, 101]⟩ : ByteArray), x4_2⟩ : S42) [.string (⟨#[101, 100, 103, 101]⟩ : ByteArray), .int .i64 x4_2] from (k42_mkM _ _ _ (⟨(⟨#[101, 100, 103, 101]⟩ : ByteArray), x4_2⟩ : S42) )) (Reps.c2 (show Kd.M k42 _ _ _ (⟨(⟨#[116, 111]⟩ : ByteArray), (rd_T75 l0_1 x4_2).f1⟩ : S42) [.string (⟨#[116, 111]⟩ : ByteArray), .int .i64 ((rd_T75 l0_1 x4_2).f1)] from (k42_mkM _ _ _ (⟨(⟨#[116, 111]⟩ : ByteArray), (rd_T75 l0_1 x4_2).f1⟩ : S42) )) (Reps.none _ _)))); intro v290 w24 ho25 hb hg_ hnew_; clear hg_ hnew_; (first | rw [← Ny289.out] at ho25 | (simp only [Int.reduceToNat] at ho25; rw [← Ny289.out] at ho25)); have n0_ := Aside0.mk (Kd.R_lower ho25 (below_size (by repeat (first | (with_reducible first | exact HB.out | apply below_alloc | apply pw_below_drewN | apply below_drew1 | refine below_set ?_ GE283.out) | exact HB.out)))); have n1_ := Aside0.mk (blk_below (g := gb283) (o := .cells #[.int .i64 a0_0, .slice (some ad284) l0_1.length c0_1, .slice A0_2 l0_2.length c0_2] 59 (0, 0)) (by (with_reducible repeat (first | refine blk_drewN ?_ _ | refine blk_drew ?_ | refine blk_alloc ?_ _)); exact BK283.out) hb); have n2_ := Aside0.mk (below_step (by repeat (first | (with_reducible first | exact HB.out | apply below_alloc | apply pw_below_drewN | apply below_drew1 | refine below_set ?_ GE283.out) | exact HB.out)) hb); clear BK283; clear HB; have HO291 := n0_; have BK283 := n1_; have HB := n2_; clear n0_ n1_ n2_; clear hb ho25)))
                              go_ret2
                              exact ⟨_, by first | rfl | (simp [errW_none, errW_some] <;> rfl) | (simp [*, errW_none, errW_some] <;> rfl), by (with_reducible repeat (first | apply Kd.R_alloc | apply Kd.R_drewN | apply Kd.R_drew)); exact HO291.out, by repeat (first | (with_reducible first | exact HB.out | apply below_alloc | apply pw_below_drewN | apply below_drew1 | refine below_set ?_ GE283.out) | exact HB.out)⟩
                            · rw [if_neg c22] at H
                              have c22b0 : decide (((rd_T75 l0_1 x4_2).f1) < 0) = false := decide_eq_false c22
                              clear c22
                              by_cases c26 : ((rd_T75 l0_1 x4_2).f1) ≥ a0_0
                              · rw [if_pos c26] at H
                                have c26b0 : decide (a0_0 ≤ ((rd_T75 l0_1 x4_2).f1)) = true := decide_eq_true c26
                                clear c26
                                obtain ⟨y292, hy292⟩ : ∃ y_ : List (S42), y_ = (([(⟨(⟨#[101, 100, 103, 101]⟩ : ByteArray), x4_2⟩ : S42), (⟨(⟨#[116, 111]⟩ : ByteArray), (rd_T75 l0_1 x4_2).f1⟩ : S42)] : List (S42))) := ⟨_, rfl⟩
                                replace H : (some (y292, 2)) = some (r1, r2) := by first | (rw [hy292]; with_reducible exact H) | (have H2_ := (Option.bind_some _ _).symm.trans H; rw [hy292]; with_reducible exact H2_) | (have H2_ := (Option.bind_some _ _).symm.trans H; with_reducible exact H2_) | with_reducible exact H | (rw [hy292]; exact H) | exact H
                                have Ny292 := Aside0.mk hy292
                                clear hy292
                                simp only [Option.some.injEq, Prod.mk.injEq] at H
                                obtain ⟨rfl, rfl⟩ := H
                                have hcz27_0 : wc.cell? ⟨gb283, 0, none⟩ = some (.int .i64 a0_0) := (blk_cell BK283.out 0).trans rfl
                                have hcz27_1 : wc.cell? ⟨gb283, 1, none⟩ = some (.slice (some ad284) l0_1.length c0_1) := (blk_cell BK283.out 1).trans rfl
                                have hcz27_2 : wc.cell? ⟨gb283, 2, none⟩ = some (.slice A0_2 l0_2.length c0_2) := (blk_cell BK283.out 2).trans rfl
                                have hfz27_0 := blk_frozen BK283.out 0
                                have hfz27_1 := blk_frozen BK283.out 1
                                have hfz27_2 := blk_frozen BK283.out 2
                                have p288 : 0 ≤ (x4_2 : Int) := of_decide_eq_true (by first | (with_reducible assumption) | assumption)
                                have q288 : x4_2 < (l0_1.length : Int) := of_decide_eq_true (by first | (with_reducible assumption) | assumption)
                                obtain ⟨ad288, e288, hx288_0, hx288_1, hx288_2⟩ := at_T75 HR0_1.out x4_2 p288 q288
                                obtain rfl : ad284 = ad288 := (by injection e288)
                                replace hx288_0 := (HB.out.cell (World.block_lt_of_cell? w _ hx288_0)).trans hx288_0
                                replace hx288_1 := (HB.out.cell (World.block_lt_of_cell? w _ hx288_1)).trans hx288_1
                                replace hx288_2 := (HB.out.cell (World.block_lt_of_cell? w _ hx288_2)).trans hx288_2
                                replace p288 := eq_true p288
                                replace q288 := eq_true q288
                                go_wp2_with (first | ((with_reducible refine gate_dst (N := 69) rfl ?_); (try (refine gate_guard (by rfl) ?_; dsimp only)); refine Kd.R_lit k42 _ 42 ?hg (N := 69) ?hd (xs := ([(⟨(⟨#[101, 100, 103, 101]⟩ : ByteArray), x4_2⟩ : S42), (⟨(⟨#[116, 111]⟩ : ByteArray), (rd_T75 l0_1 x4_2).f1⟩ : S42)] : List (S42))) (inner := [.string (⟨#[101, 100, 103, 101]⟩ : ByteArray), .int .i64 x4_2, .string (⟨#[116, 111]⟩ : ByteArray), .int .i64 ((rd_T75 l0_1 x4_2).f1)]) (ok := fun _ => True) (okp := fun _ => True) ?hr ?hp (fun _ hk => hk) trivial (Below.refl _ _) (Nat.le_refl _) (by simp) ?_; (case hd => rfl); (case hg => rfl); (case hr => first | (go_simp; done) | (go_simp; rfl)); (case hp => exact (Reps.c2 (show Kd.M k42 _ _ _ (⟨(⟨#[101, 100, 103, 101]⟩ : ByteArray), x4_2⟩ : S42) [.string (⟨#[101, 100, 103, 101]⟩ : ByteArray), .int .i64 x4_2] from (k42_mkM _ _ _ (⟨(⟨#[101, 100, 103, 101]⟩ : ByteArray), x4_2⟩ : S42) )) (Reps.c2 (show Kd.M k42 _ _ _ (⟨(⟨#[116, 111]⟩ : ByteArray), (rd_T75 l0_1 x4_2).f1⟩ : S42) [.string (⟨#[116, 111]⟩ : ByteArray), .int .i64 ((rd_T75 l0_1 x4_2).f1)] from (k42_mkM _ _ _ (⟨(⟨#[116, 111]⟩ : ByteArray), (rd_T75 l0_1 x4_2).f1⟩ : S42) )) (Reps.none _ _)))); intro v293 w28 ho29 hb hg_ hnew_; clear hg_ hnew_; (first | rw [← Ny292.out] at ho29 | (simp only [Int.reduceToNat] at ho29; rw [← Ny292.out] at ho29)); have n0_ := Aside0.mk (Kd.R_lower ho29 (below_size (by repeat (first | (with_reducible first | exact HB.out | apply below_alloc | apply pw_below_drewN | apply below_drew1 | refine below_set ?_ GE283.out) | exact HB.out)))); have n1_ := Aside0.mk (blk_below (g := gb283) (o := .cells #[.int .i64 a0_0, .slice (some ad284) l0_1.length c0_1, .slice A0_2 l0_2.length c0_2] 59 (0, 0)) (by (with_reducible repeat (first | refine blk_drewN ?_ _ | refine blk_drew ?_ | refine blk_alloc ?_ _)); exact BK283.out) hb); have n2_ := Aside0.mk (below_step (by repeat (first | (with_reducible first | exact HB.out | apply below_alloc | apply pw_below_drewN | apply below_drew1 | refine below_set ?_ GE283.out) | exact HB.out)) hb); clear BK283; clear HB; have HO294 := n0_; have BK283 := n1_; have HB := n2_; clear n0_ n1_ n2_; clear hb ho29))
                                repeat (go_quiet (first | ((with_reducible refine gate_dst (N := 69) rfl ?_); (try (refine gate_guard (by rfl) ?_; dsimp only)); refine Kd.R_lit k42 _ 42 ?hg (N := 69) ?hd (xs := ([(⟨(⟨#[101, 100, 103, 101]⟩ : ByteArray), x4_2⟩ : S42), (⟨(⟨#[116, 111]⟩ : ByteArray), (rd_T75 l0_1 x4_2).f1⟩ : S42)] : List (S42))) (inner := [.string (⟨#[101, 100, 103, 101]⟩ : ByteArray), .int .i64 x4_2, .string (⟨#[116, 111]⟩ : ByteArray), .int .i64 ((rd_T75 l0_1 x4_2).f1)]) (ok := fun _ => True) (okp := fun _ => True) ?hr ?hp (fun _ hk => hk) trivial (Below.refl _ _) (Nat.le_refl _) (by simp) ?_; (case hd => rfl); (case hg => rfl); (case hr => first | (go_simp; done) | (go_simp; rfl)); (case hp => exact (Reps.c2 (show Kd.M k42 _ _ _ (⟨(⟨#[101, 100, 103, 101]⟩ : ByteArray), x4_2⟩ : S42) [.string (⟨#[101, 100, 103, 101]⟩ : ByteArray), .int .i64 x4_2] from (k42_mkM _ _ _ (⟨(⟨#[101, 100, 103, 101]⟩ : ByteArray), x4_2⟩ : S42) )) (Reps.c2 (show Kd.M k42 _ _ _ (⟨(⟨#[116, 111]⟩ : ByteArray), (rd_T75 l0_1 x4_2).f1⟩ : S42) [.string (⟨#[116, 111]⟩ : ByteArray), .int .i64 ((rd_T75 l0_1 x4_2).f1)] from (k42_mkM _ _ _ (⟨(⟨#[116, 111]⟩ : ByteArray), (rd_T75 l0_1 x4_2).f1⟩ : S42) )) (Reps.none _ _)))); intro v293 w28 ho29 hb hg_ hnew_; clear hg_ hnew_; (first | rw [← Ny292.out] at ho29 | (simp only [Int.reduceToNat] at ho29; rw [← Ny292.out] at ho29)); have n0_ := Aside0.mk (Kd.R_lower ho29 (below_size (by repeat (first | (with_reducible first | exact HB.out | apply below_alloc | apply pw_below_drewN | apply below_drew1 | refine below_set ?_ GE283.out) | exact HB.out)))); have n1_ := Aside0.mk (blk_below (g := gb283) (o := .cells #[.int .i64 a0_0, .slice (some ad284) l0_1.length c0_1, .slice A0_2 l0_2.length c0_2] 59 (0, 0)) (by (with_reducible repeat (first | refine blk_drewN ?_ _ | refine blk_drew ?_ | refine blk_alloc ?_ _)); exact BK283.out) hb); have n2_ := Aside0.mk (below_step (by repeat (first | (with_reducible first | exact HB.out | apply below_alloc | apply pw_below_drewN | apply below_drew1 | refine below_set ?_ GE283.out) | exact HB.out)) hb); clear BK283; clear HB; have HO294 := n0_; have BK283 := n1_; have HB := n2_; clear n0_ n1_ n2_; clear hb ho29)); try go_wp2_with (first | ((with_reducible refine gate_dst (N := 69) rfl ?_); (try (refine gate_guard (by rfl) ?_; dsimp only)); refine Kd.R_lit k42 _ 42 ?hg (N := 69) ?hd (xs := ([(⟨(⟨#[101, 100, 103, 101]⟩ : ByteArray), x4_2⟩ : S42), (⟨(⟨#[116, 111]⟩ : ByteArray), (rd_T75 l0_1 x4_2).f1⟩ : S42)] : List (S42))) (inner := [.string (⟨#[101, 100, 103, 101]⟩ : ByteArray), .int .i64 x4_2, .string (⟨#[116, 111]⟩ : ByteArray), .int .i64 ((rd_T75 l0_1 x4_2).f1)]) (ok := fun _ => True) (okp := fun _ => True) ?hr ?hp (fun _ hk => hk) trivial (Below.refl _ _) (Nat.le_refl _) (by simp) ?_; (case hd => rfl); (case hg => rfl); (case hr => first | (go_simp; done) | (go_simp; rfl)); (case hp => exact (Reps.c2 (show Kd.M k42 _ _ _ (⟨(⟨#[101, 100, 103, 101]⟩ : ByteArray), x4_2⟩ : S42) [.string (⟨#[101, 100, 103, 101]⟩ : ByteArray), .int .i64 x4_2] from (k42_mkM _ _ _ (⟨(⟨#[101, 100, 103, 101]⟩ : ByteArray), x4_2⟩ : S42) )) (Reps.c2 (show Kd.M k42 _ _ _ (⟨(⟨#[116, 111]⟩ : ByteArray), (rd_T75 l0_1 x4_2).f1⟩ : S42) [.string (⟨#[116, 111]⟩ : ByteArray), .int .i64 ((rd_T75 l0_1 x4_2).f1)] from (k42_mkM _ _ _ (⟨(⟨#[116, 111]⟩ : ByteArray), (rd_T75 l0_1 x4_2).f1⟩ : S42) )) (Reps.none _ _)))); intro v293 w28 ho29 hb hg_ hnew_; clear hg_ hnew_; (first | rw [← Ny292.out] at ho29 | (simp only [Int.reduceToNat] at ho29; rw [← Ny292.out] at ho29)); have n0_ := Aside0.mk (Kd.R_lower ho29 (below_size (by repeat (first | (with_reducible first | exact HB.out | apply below_alloc | apply pw_below_drewN | apply below_drew1 | refine below_set ?_ GE283.out) | exact HB.out)))); have n1_ := Aside0.mk (blk_below (g := gb283) (o := .cells #[.int .i64 a0_0, .slice (some ad284) l0_1.length c0_1, .slice A0_2 l0_2.length c0_2] 59 (0, 0)) (by (with_reducible repeat (first | refine blk_drewN ?_ _ | refine blk_drew ?_ | refine blk_alloc ?_ _)); exact BK283.out) hb); have n2_ := Aside0.mk (below_step (by repeat (first | (with_reducible first | exact HB.out | apply below_alloc | apply pw_below_drewN | apply below_drew1 | refine below_set ?_ GE283.out) | exact HB.out)) hb); clear BK283; clear HB; have HO294 := n0_; have BK283 := n1_; have HB := n2_; clear n0_ n1_ n2_; clear hb ho29)))
                                go_ret2
                                exact ⟨_, by first | rfl | (simp [errW_none, errW_some] <;> rfl) | (simp [*, errW_none, errW_some] <;> rfl), by (with_reducible repeat (first | apply Kd.R_alloc | apply Kd.R_drewN | apply Kd.R_drew)); exact HO294.out, by repeat (first | (with_reducible first | exact HB.out | apply below_alloc | apply pw_below_drewN | apply below_drew1 | refine below_set ?_ GE283.out) | exact HB.out)⟩
                              · rw [if_neg c26] at H
                                have c26b0 : decide (a0_0 ≤ ((rd_T75 l0_1 x4_2).f1)) = false := decide_eq_false c26
                                clear c26
                                have H' := Aside0.mk H
                                clear H
                                have hcz30_0 : wc.cell? ⟨gb283, 0, none⟩ = some (.int .i64 a0_0) := (blk_cell BK283.out 0).trans rfl
                                have hcz30_1 : wc.cell? ⟨gb283, 1, none⟩ = some (.slice (some ad284) l0_1.length c0_1) := (blk_cell BK283.out 1).trans rfl
                                have hcz30_2 : wc.cell? ⟨gb283, 2, none⟩ = some (.slice A0_2 l0_2.length c0_2) := (blk_cell BK283.out 2).trans rfl
                                have hfz30_0 := blk_frozen BK283.out 0
                                have hfz30_1 := blk_frozen BK283.out 1
                                have hfz30_2 := blk_frozen BK283.out 2
                                have p288 : 0 ≤ (x4_2 : Int) := of_decide_eq_true (by first | (with_reducible assumption) | assumption)
                                have q288 : x4_2 < (l0_1.length : Int) := of_decide_eq_true (by first | (with_reducible assumption) | assumption)
                                obtain ⟨ad288, e288, hx288_0, hx288_1, hx288_2⟩ := at_T75 HR0_1.out x4_2 p288 q288
                                obtain rfl : ad284 = ad288 := (by injection e288)
                                replace hx288_0 := (HB.out.cell (World.block_lt_of_cell? w _ hx288_0)).trans hx288_0
                                replace hx288_1 := (HB.out.cell (World.block_lt_of_cell? w _ hx288_1)).trans hx288_1
                                replace hx288_2 := (HB.out.cell (World.block_lt_of_cell? w _ hx288_2)).trans hx288_2
                                replace p288 := eq_true p288
                                replace q288 := eq_true q288
                                go_wp2
                                repeat (go_quiet (fail); try go_wp2)
                                go_roundg kj12
                                case measure => have := HJ1.out; have := HK2.out; have := HJ12.out; omega
                                case rel => exact ⟨(wrap64 (x4_2 + 1)), (by first | rfl | (simp; done) | (simp [*]; done)), H', ⟨by have := HJ1.out; have := HK2.out; have := HJ12.out; omega⟩, ⟨by (with_reducible repeat (first | refine blk_drewN ?_ _ | refine blk_drew ?_ | refine blk_alloc ?_ _)); exact BK283.out⟩, ⟨by repeat (first | (with_reducible first | exact HB.out | apply below_alloc | apply pw_below_drewN | apply below_drew1 | refine below_set ?_ GE283.out) | exact HB.out)⟩⟩
                          · rw [if_neg c21] at H
                            exact absurd H (by simp)
                        · rw [if_neg c20] at H
                          exact absurd H (by simp)
                · rw [if_neg c12] at H
                  exact absurd H (by simp)
              · rw [if_neg c11] at H
                have c11b0 : decide (x4_2 < (l0_1.length : Int)) = false := decide_eq_false c11
                clear c11
                have HC31 := Aside0.mk H
                clear H
                have hcz32_0 : wr.cell? ⟨gb283, 0, none⟩ = some (.int .i64 a0_0) := (blk_cell BK283.out 0).trans rfl
                have hcz32_1 : wr.cell? ⟨gb283, 1, none⟩ = some (.slice A0_1 l0_1.length c0_1) := (blk_cell BK283.out 1).trans rfl
                have hcz32_2 : wr.cell? ⟨gb283, 2, none⟩ = some (.slice A0_2 l0_2.length c0_2) := (blk_cell BK283.out 2).trans rfl
                have hfz32_0 := blk_frozen BK283.out 0
                have hfz32_1 := blk_frozen BK283.out 1
                have hfz32_2 := blk_frozen BK283.out 2
                go_upto_region 14 with (fail)
                repeat (go_quiet (fail); go_upto_region 14 with (fail))
                go_cut [79] (fun v79 wc => ∃ (kq : Nat) (x79_30 : Bool), v79 = .bool x79_30 ∧ Aside0 (marchlandref05_Check.j3 kq x79_30 a0_0 l0_1 l0_2 = some (r1, r2)) ∧ Aside0 (kq ≤ k2) ∧ Aside0 (wc.heap[gb283]? = some (.cells #[.int .i64 a0_0, (.slice A0_1 l0_1.length c0_1), (.slice A0_2 l0_2.length c0_2)] 59 (0, 0))) ∧ Aside0 (Below w.heap.size w wc))
                case first =>
                  have H := HC31.out
                  clear HC31
                  by_cases c33 : (l0_2.length : Int) > 8
                  · rw [if_pos c33] at H
                    have c33b0 : decide (8 < (l0_2.length : Int)) = true := decide_eq_true c33
                    have c33b1 : decide (8 < l0_2.length) = true := decide_eq_true (by omega)
                    clear c33
                    (first | rw [c33b0] | (simp only [i64_w, i32_w]; rw [c33b0]) | skip)
                    have H' := Aside0.mk H
                    clear H
                    have hcz34_0 : wr.cell? ⟨gb283, 0, none⟩ = some (.int .i64 a0_0) := (blk_cell BK283.out 0).trans rfl
                    have hcz34_1 : wr.cell? ⟨gb283, 1, none⟩ = some (.slice A0_1 l0_1.length c0_1) := (blk_cell BK283.out 1).trans rfl
                    have hcz34_2 : wr.cell? ⟨gb283, 2, none⟩ = some (.slice A0_2 l0_2.length c0_2) := (blk_cell BK283.out 2).trans rfl
                    have hfz34_0 := blk_frozen BK283.out 0
                    have hfz34_1 := blk_frozen BK283.out 1
                    have hfz34_2 := blk_frozen BK283.out 2
                    go_wp2
                    repeat (go_quiet (fail); try go_wp2)
                    go_meet
                    case rel => exact ⟨_, (true), (by first | rfl | (simp; done) | (simp [*]; done)), H', ⟨by have := HJ1.out; have := HK2.out; first | omega | exact Nat.le_refl _⟩, ⟨by (with_reducible repeat (first | refine blk_drewN ?_ _ | refine blk_drew ?_ | refine blk_alloc ?_ _)); exact BK283.out⟩, ⟨by repeat (first | (with_reducible first | exact HB.out | apply below_alloc | apply pw_below_drewN | apply below_drew1 | refine below_set ?_ GE283.out) | exact HB.out)⟩⟩
                  · rw [if_neg c33] at H
                    have c33b0 : decide (8 < (l0_2.length : Int)) = false := decide_eq_false c33
                    have c33b1 : decide (8 < l0_2.length) = false := decide_eq_false (by omega)
                    clear c33
                    (first | rw [c33b0] | (simp only [i64_w, i32_w]; rw [c33b0]) | skip)
                    have H' := Aside0.mk H
                    clear H
                    have hcz35_0 : wr.cell? ⟨gb283, 0, none⟩ = some (.int .i64 a0_0) := (blk_cell BK283.out 0).trans rfl
                    have hcz35_1 : wr.cell? ⟨gb283, 1, none⟩ = some (.slice A0_1 l0_1.length c0_1) := (blk_cell BK283.out 1).trans rfl
                    have hcz35_2 : wr.cell? ⟨gb283, 2, none⟩ = some (.slice A0_2 l0_2.length c0_2) := (blk_cell BK283.out 2).trans rfl
                    have hfz35_0 := blk_frozen BK283.out 0
                    have hfz35_1 := blk_frozen BK283.out 1
                    have hfz35_2 := blk_frozen BK283.out 2
                    go_wp2
                    repeat (go_quiet (fail); try go_wp2)
                    go_meet
                    case rel => exact ⟨_, (decide ((l0_2.length : Int) < 1)), (by first | rfl | (simp; done) | (simp [*]; done)), H', ⟨by have := HJ1.out; have := HK2.out; first | omega | exact Nat.le_refl _⟩, ⟨by (with_reducible repeat (first | refine blk_drewN ?_ _ | refine blk_drew ?_ | refine blk_alloc ?_ _)); exact BK283.out⟩, ⟨by repeat (first | (with_reducible first | exact HB.out | apply below_alloc | apply pw_below_drewN | apply below_drew1 | refine below_set ?_ GE283.out) | exact HB.out)⟩⟩
                case rest =>
                  clear HC31
                  try clear c1
                  try clear c2
                  try clear p2
                  try clear q2
                  try clear hx2
                  try clear c3
                  try clear c4
                  try clear c4b0
                  try clear p6
                  try clear c7
                  try clear c8
                  try clear c8b0
                  try clear c8b1
                  try clear c11
                  try clear c11b0
                  try clear c12
                  try clear c12b0
                  try clear c15
                  try clear c15b0
                  try clear c17
                  try clear c20
                  try clear c20b0
                  try clear c21
                  try clear c21b0
                  try clear c22
                  try clear c22b0
                  try clear c26
                  try clear c26b0
                  try clear p28
                  try clear q28
                  try clear hx28
                  try clear c33
                  try clear c33b0
                  try clear c33b1
                  try clear hcz10_0
                  try clear hcz10_1
                  try clear hcz10_2
                  try clear hcz14_0
                  try clear hcz14_1
                  try clear hcz14_2
                  try clear hcz16_0
                  try clear hcz16_1
                  try clear hcz16_2
                  try clear hcz23_0
                  try clear hcz23_1
                  try clear hcz23_2
                  try clear hcz27_0
                  try clear hcz27_1
                  try clear hcz27_2
                  try clear hcz30_0
                  try clear hcz30_1
                  try clear hcz30_2
                  try clear hcz32_0
                  try clear hcz32_1
                  try clear hcz32_2
                  try clear hcz34_0
                  try clear hcz34_1
                  try clear hcz34_2
                  try clear hcz35_0
                  try clear hcz35_1
                  try clear hcz35_2
                  try clear hcz5_0
                  try clear hcz5_1
                  try clear hcz5_2
                  try clear hcz6_0
                  try clear hcz6_1
                  try clear hcz6_2
                  try clear hcz9_0
                  try clear hcz9_1
                  try clear hcz9_2
                  try clear hfz10_0
                  try clear hfz10_1
                  try clear hfz10_2
                  try clear hfz14_0
                  try clear hfz14_1
                  try clear hfz14_2
                  try clear hfz16_0
                  try clear hfz16_1
                  try clear hfz16_2
                  try clear hfz23_0
                  try clear hfz23_1
                  try clear hfz23_2
                  try clear hfz27_0
                  try clear hfz27_1
                  try clear hfz27_2
                  try clear hfz30_0
                  try clear hfz30_1
                  try clear hfz30_2
                  try clear hfz32_0
                  try clear hfz32_1
                  try clear hfz32_2
                  try clear hfz34_0
                  try clear hfz34_1
                  try clear hfz34_2
                  try clear hfz35_0
                  try clear hfz35_1
                  try clear hfz35_2
                  try clear hfz5_0
                  try clear hfz5_1
                  try clear hfz5_2
                  try clear hfz6_0
                  try clear hfz6_1
                  try clear hfz6_2
                  try clear hfz9_0
                  try clear hfz9_1
                  try clear hfz9_2
                  try clear hx284_0
                  try clear hx284_1
                  try clear hx284_2
                  try clear hx288_0
                  try clear hx288_1
                  try clear hx288_2
                  try clear p2
                  try clear p284
                  try clear p288
                  try clear q2
                  try clear q284
                  try clear q288
                  obtain ⟨kq, x79_30, rfl, HA, HJ30, BK283, HB⟩ := hcut
                  cases kq with
                  | zero => exact absurd HA.out (by simp [marchlandref05_Check.j3])
                  | succ kj30 =>
                    have H := HA.out
                    clear HA
                    simp only [marchlandref05_Check.j3] at H
                    by_cases c36 : x79_30 = true
                    · subst c36
                      have H1 : (some (([] : List (S42)), 4)) = some (r1, r2) := by rw [if_pos rfl] at H; exact H
                      clear H
                      have H := H1
                      clear H1
                      simp only [Option.some.injEq, Prod.mk.injEq] at H
                      obtain ⟨rfl, rfl⟩ := H
                      go_wp2
                      repeat (go_quiet (fail); try go_wp2)
                      go_ret2
                      exact ⟨_, by first | rfl | (simp [errW_none, errW_some] <;> rfl) | (simp [*, errW_none, errW_some] <;> rfl), by first | exact Kd.R_nil _ _ _ _ _ | exact Kd.N_nil _ _ _ _ _ | exact Kd.V_nil _ _ _ _ _ | exact Kd.Q_nil _ _ _ _ _ | exact Kd.S_nil _ _ _ _ _, by repeat (first | (with_reducible first | exact HB.out | apply below_alloc | apply pw_below_drewN | apply below_drew1 | refine below_set ?_ GE283.out) | exact HB.out)⟩
                    · replace c36 := Bool.eq_false_iff.mpr c36
                      subst c36
                      have H1 : (marchlandref05_Check.l1 kj30 0 a0_0 l0_1 l0_2) = some (r1, r2) := by rw [if_neg (show ¬ (false = true) by decide)] at H; exact H
                      clear H
                      have H := H1
                      clear H1
                      have H' := Aside0.mk H
                      clear H
                      go_wp2
                      repeat (go_quiet (fail); try go_wp2)
                      go_loopg [7] kj30 (fun kq v7 w' => ∃ (x7_4 : Int), v7 = .int .i64 x7_4 ∧ Aside0 (marchlandref05_Check.l1 kq x7_4 a0_0 l0_1 l0_2 = some (r1, r2)) ∧ Aside0 (kq ≤ kj30) ∧ Aside0 (w'.heap[gb283]? = some (.cells #[.int .i64 a0_0, (.slice A0_1 l0_1.length c0_1), (.slice A0_2 l0_2.length c0_2)] 59 (0, 0))) ∧ Aside0 (Below w.heap.size w w'))
                      case atStart => exact ⟨(0), (by first | rfl | (simp; done) | (simp [*]; done)), H', ⟨Nat.le_refl _⟩, ⟨by (with_reducible repeat (first | refine blk_drewN ?_ _ | refine blk_drew ?_ | refine blk_alloc ?_ _)); exact BK283.out⟩, ⟨by repeat (first | (with_reducible first | exact HB.out | apply below_alloc | apply pw_below_drewN | apply below_drew1 | refine below_set ?_ GE283.out) | exact HB.out)⟩⟩
                      case round =>
                        clear H'
                        try clear c1
                        try clear c2
                        try clear p2
                        try clear q2
                        try clear hx2
                        try clear c3
                        try clear c4
                        try clear c4b0
                        try clear p6
                        try clear c7
                        try clear c8
                        try clear c8b0
                        try clear c8b1
                        try clear c11
                        try clear c11b0
                        try clear c12
                        try clear c12b0
                        try clear c15
                        try clear c15b0
                        try clear c17
                        try clear c20
                        try clear c20b0
                        try clear c21
                        try clear c21b0
                        try clear c22
                        try clear c22b0
                        try clear c26
                        try clear c26b0
                        try clear p28
                        try clear q28
                        try clear hx28
                        try clear c33
                        try clear c33b0
                        try clear c33b1
                        try clear c36
                        try clear hcz10_0
                        try clear hcz10_1
                        try clear hcz10_2
                        try clear hcz14_0
                        try clear hcz14_1
                        try clear hcz14_2
                        try clear hcz16_0
                        try clear hcz16_1
                        try clear hcz16_2
                        try clear hcz23_0
                        try clear hcz23_1
                        try clear hcz23_2
                        try clear hcz27_0
                        try clear hcz27_1
                        try clear hcz27_2
                        try clear hcz30_0
                        try clear hcz30_1
                        try clear hcz30_2
                        try clear hcz32_0
                        try clear hcz32_1
                        try clear hcz32_2
                        try clear hcz34_0
                        try clear hcz34_1
                        try clear hcz34_2
                        try clear hcz35_0
                        try clear hcz35_1
                        try clear hcz35_2
                        try clear hcz5_0
                        try clear hcz5_1
                        try clear hcz5_2
                        try clear hcz6_0
                        try clear hcz6_1
                        try clear hcz6_2
                        try clear hcz9_0
                        try clear hcz9_1
                        try clear hcz9_2
                        try clear hfz10_0
                        try clear hfz10_1
                        try clear hfz10_2
                        try clear hfz14_0
                        try clear hfz14_1
                        try clear hfz14_2
                        try clear hfz16_0
                        try clear hfz16_1
                        try clear hfz16_2
                        try clear hfz23_0
                        try clear hfz23_1
                        try clear hfz23_2
                        try clear hfz27_0
                        try clear hfz27_1
                        try clear hfz27_2
                        try clear hfz30_0
                        try clear hfz30_1
                        try clear hfz30_2
                        try clear hfz32_0
                        try clear hfz32_1
                        try clear hfz32_2
                        try clear hfz34_0
                        try clear hfz34_1
                        try clear hfz34_2
                        try clear hfz35_0
                        try clear hfz35_1
                        try clear hfz35_2
                        try clear hfz5_0
                        try clear hfz5_1
                        try clear hfz5_2
                        try clear hfz6_0
                        try clear hfz6_1
                        try clear hfz6_2
                        try clear hfz9_0
                        try clear hfz9_1
                        try clear hfz9_2
                        try clear hx284_0
                        try clear hx284_1
                        try clear hx284_2
                        try clear hx288_0
                        try clear hx288_1
                        try clear hx288_2
                        try clear p2
                        try clear p28
                        try clear p284
                        try clear p288
                        try clear p6
                        try clear q2
                        try clear q28
                        try clear q284
                        try clear q288
                        obtain ⟨x7_4, rfl, HA, HK4, BK283, HB⟩ := hrel
                        cases gk with
                        | zero => exact absurd HA.out (by simp [marchlandref05_Check.l1])
                        | succ k4 =>
                          have H := HA.out
                          clear HA
                          simp only [marchlandref05_Check.l1] at H
                          by_cases c37 : x7_4 < (l0_2.length : Int)
                          · rw [if_pos c37] at H
                            have c37b0 : decide (x7_4 < (l0_2.length : Int)) = true := decide_eq_true c37
                            clear c37
                            have HC38 := Aside0.mk H
                            clear H
                            have hcz39_0 : wr.cell? ⟨gb283, 0, none⟩ = some (.int .i64 a0_0) := (blk_cell BK283.out 0).trans rfl
                            have hcz39_1 : wr.cell? ⟨gb283, 1, none⟩ = some (.slice A0_1 l0_1.length c0_1) := (blk_cell BK283.out 1).trans rfl
                            have hcz39_2 : wr.cell? ⟨gb283, 2, none⟩ = some (.slice A0_2 l0_2.length c0_2) := (blk_cell BK283.out 2).trans rfl
                            have hfz39_0 := blk_frozen BK283.out 0
                            have hfz39_1 := blk_frozen BK283.out 1
                            have hfz39_2 := blk_frozen BK283.out 2
                            go_upto_region 19 with (fail)
                            repeat (go_quiet (fail); go_upto_region 19 with (fail))
                            go_cut [102] (fun v102 wc => ∃ (kq : Nat) (x102_37 : Bool), v102 = .bool x102_37 ∧ Aside0 (marchlandref05_Check.j5 kq x7_4 x102_37 a0_0 l0_1 l0_2 = some (r1, r2)) ∧ Aside0 (kq ≤ k4) ∧ Aside0 (wc.heap[gb283]? = some (.cells #[.int .i64 a0_0, (.slice A0_1 l0_1.length c0_1), (.slice A0_2 l0_2.length c0_2)] 59 (0, 0))) ∧ Aside0 (Below w.heap.size w wc))
                            case first =>
                              have H := HC38.out
                              clear HC38
                              by_cases c40 : 0 ≤ x7_4
                              · rw [if_pos c40] at H
                                have c40b0 : decide (0 ≤ x7_4) = true := decide_eq_true c40
                                clear c40
                                (first | rw [c40b0] | (simp only [i64_w, i32_w]; rw [c40b0]) | skip)
                                by_cases c41 : (rd l0_2 x7_4) < 0
                                · rw [if_pos c41] at H
                                  have c41b0 : decide ((rd l0_2 x7_4) < 0) = true := decide_eq_true c41
                                  clear c41
                                  have H' := Aside0.mk H
                                  clear H
                                  have hcz42_0 : wr.cell? ⟨gb283, 0, none⟩ = some (.int .i64 a0_0) := (blk_cell BK283.out 0).trans rfl
                                  have hcz42_1 : wr.cell? ⟨gb283, 1, none⟩ = some (.slice A0_1 l0_1.length c0_1) := (blk_cell BK283.out 1).trans rfl
                                  have hcz42_2 : wr.cell? ⟨gb283, 2, none⟩ = some (.slice A0_2 l0_2.length c0_2) := (blk_cell BK283.out 2).trans rfl
                                  have hfz42_0 := blk_frozen BK283.out 0
                                  have hfz42_1 := blk_frozen BK283.out 1
                                  have hfz42_2 := blk_frozen BK283.out 2
                                  have p295 : 0 ≤ (x7_4 : Int) := of_decide_eq_true (by first | (with_reducible assumption) | assumption)
                                  have q295 : x7_4 < (l0_2.length : Int) := of_decide_eq_true (by first | (with_reducible assumption) | assumption)
                                  obtain ⟨ad295, e295, hx295_0⟩ := Kd.at_int HR0_2.out x7_4 p295 q295
                                  cases e295
                                  replace hx295_0 := (HB.out.cell (World.block_lt_of_cell? w _ hx295_0)).trans hx295_0
                                  replace p295 := eq_true p295
                                  replace q295 := eq_true q295
                                  go_wp2
                                  repeat (go_quiet (fail); try go_wp2)
                                  go_meet
                                  case rel => exact ⟨_, (true), (by first | rfl | (simp; done) | (simp [*]; done)), H', ⟨by have := HJ1.out; have := HK2.out; have := HJ30.out; have := HK4.out; first | omega | exact Nat.le_refl _⟩, ⟨by (with_reducible repeat (first | refine blk_drewN ?_ _ | refine blk_drew ?_ | refine blk_alloc ?_ _)); exact BK283.out⟩, ⟨by repeat (first | (with_reducible first | exact HB.out | apply below_alloc | apply pw_below_drewN | apply below_drew1 | refine below_set ?_ GE283.out) | exact HB.out)⟩⟩
                                · rw [if_neg c41] at H
                                  have c41b0 : decide ((rd l0_2 x7_4) < 0) = false := decide_eq_false c41
                                  clear c41
                                  have H' := Aside0.mk H
                                  clear H
                                  have hcz43_0 : wr.cell? ⟨gb283, 0, none⟩ = some (.int .i64 a0_0) := (blk_cell BK283.out 0).trans rfl
                                  have hcz43_1 : wr.cell? ⟨gb283, 1, none⟩ = some (.slice A0_1 l0_1.length c0_1) := (blk_cell BK283.out 1).trans rfl
                                  have hcz43_2 : wr.cell? ⟨gb283, 2, none⟩ = some (.slice A0_2 l0_2.length c0_2) := (blk_cell BK283.out 2).trans rfl
                                  have hfz43_0 := blk_frozen BK283.out 0
                                  have hfz43_1 := blk_frozen BK283.out 1
                                  have hfz43_2 := blk_frozen BK283.out 2
                                  have p295 : 0 ≤ (x7_4 : Int) := of_decide_eq_true (by first | (with_reducible assumption) | assumption)
                                  have q295 : x7_4 < (l0_2.length : Int) := of_decide_eq_true (by first | (with_reducible assumption) | assumption)
                                  obtain ⟨ad295, e295, hx295_0⟩ := Kd.at_int HR0_2.out x7_4 p295 q295
                                  cases e295
                                  replace hx295_0 := (HB.out.cell (World.block_lt_of_cell? w _ hx295_0)).trans hx295_0
                                  replace p295 := eq_true p295
                                  replace q295 := eq_true q295
                                  have p296 : 0 ≤ (x7_4 : Int) := of_decide_eq_true (by first | (with_reducible assumption) | assumption)
                                  have q296 : x7_4 < (l0_2.length : Int) := of_decide_eq_true (by first | (with_reducible assumption) | assumption)
                                  obtain ⟨ad296, e296, hx296_0⟩ := Kd.at_int HR0_2.out x7_4 p296 q296
                                  obtain rfl : ad295 = ad296 := (by injection e296)
                                  replace hx296_0 := (HB.out.cell (World.block_lt_of_cell? w _ hx296_0)).trans hx296_0
                                  replace p296 := eq_true p296
                                  replace q296 := eq_true q296
                                  go_wp2
                                  repeat (go_quiet (fail); try go_wp2)
                                  go_meet
                                  case rel => exact ⟨_, (decide ((rd l0_2 x7_4) ≥ a0_0)), (by first | rfl | (simp; done) | (simp [*]; done)), H', ⟨by have := HJ1.out; have := HK2.out; have := HJ30.out; have := HK4.out; first | omega | exact Nat.le_refl _⟩, ⟨by (with_reducible repeat (first | refine blk_drewN ?_ _ | refine blk_drew ?_ | refine blk_alloc ?_ _)); exact BK283.out⟩, ⟨by repeat (first | (with_reducible first | exact HB.out | apply below_alloc | apply pw_below_drewN | apply below_drew1 | refine below_set ?_ GE283.out) | exact HB.out)⟩⟩
                              · rw [if_neg c40] at H
                                exact absurd H (by simp)
                            case rest =>
                              clear HC38
                              try clear c1
                              try clear c2
                              try clear p2
                              try clear q2
                              try clear hx2
                              try clear c3
                              try clear c4
                              try clear c4b0
                              try clear p6
                              try clear c7
                              try clear c8
                              try clear c8b0
                              try clear c8b1
                              try clear c11
                              try clear c11b0
                              try clear c12
                              try clear c12b0
                              try clear c15
                              try clear c15b0
                              try clear c17
                              try clear c20
                              try clear c20b0
                              try clear c21
                              try clear c21b0
                              try clear c22
                              try clear c22b0
                              try clear c26
                              try clear c26b0
                              try clear p28
                              try clear q28
                              try clear hx28
                              try clear p29
                              try clear q29
                              try clear hx29
                              try clear c33
                              try clear c33b0
                              try clear c33b1
                              try clear c36
                              try clear c37
                              try clear c37b0
                              try clear c40
                              try clear c40b0
                              try clear c41
                              try clear c41b0
                              try clear hcz10_0
                              try clear hcz10_1
                              try clear hcz10_2
                              try clear hcz14_0
                              try clear hcz14_1
                              try clear hcz14_2
                              try clear hcz16_0
                              try clear hcz16_1
                              try clear hcz16_2
                              try clear hcz23_0
                              try clear hcz23_1
                              try clear hcz23_2
                              try clear hcz27_0
                              try clear hcz27_1
                              try clear hcz27_2
                              try clear hcz30_0
                              try clear hcz30_1
                              try clear hcz30_2
                              try clear hcz32_0
                              try clear hcz32_1
                              try clear hcz32_2
                              try clear hcz34_0
                              try clear hcz34_1
                              try clear hcz34_2
                              try clear hcz35_0
                              try clear hcz35_1
                              try clear hcz35_2
                              try clear hcz39_0
                              try clear hcz39_1
                              try clear hcz39_2
                              try clear hcz42_0
                              try clear hcz42_1
                              try clear hcz42_2
                              try clear hcz43_0
                              try clear hcz43_1
                              try clear hcz43_2
                              try clear hcz5_0
                              try clear hcz5_1
                              try clear hcz5_2
                              try clear hcz6_0
                              try clear hcz6_1
                              try clear hcz6_2
                              try clear hcz9_0
                              try clear hcz9_1
                              try clear hcz9_2
                              try clear hfz10_0
                              try clear hfz10_1
                              try clear hfz10_2
                              try clear hfz14_0
                              try clear hfz14_1
                              try clear hfz14_2
                              try clear hfz16_0
                              try clear hfz16_1
                              try clear hfz16_2
                              try clear hfz23_0
                              try clear hfz23_1
                              try clear hfz23_2
                              try clear hfz27_0
                              try clear hfz27_1
                              try clear hfz27_2
                              try clear hfz30_0
                              try clear hfz30_1
                              try clear hfz30_2
                              try clear hfz32_0
                              try clear hfz32_1
                              try clear hfz32_2
                              try clear hfz34_0
                              try clear hfz34_1
                              try clear hfz34_2
                              try clear hfz35_0
                              try clear hfz35_1
                              try clear hfz35_2
                              try clear hfz39_0
                              try clear hfz39_1
                              try clear hfz39_2
                              try clear hfz42_0
                              try clear hfz42_1
                              try clear hfz42_2
                              try clear hfz43_0
                              try clear hfz43_1
                              try clear hfz43_2
                              try clear hfz5_0
                              try clear hfz5_1
                              try clear hfz5_2
                              try clear hfz6_0
                              try clear hfz6_1
                              try clear hfz6_2
                              try clear hfz9_0
                              try clear hfz9_1
                              try clear hfz9_2
                              try clear hx284_0
                              try clear hx284_1
                              try clear hx284_2
                              try clear hx288_0
                              try clear hx288_1
                              try clear hx288_2
                              try clear hx295_0
                              try clear hx296_0
                              try clear p2
                              try clear p28
                              try clear p284
                              try clear p288
                              try clear p295
                              try clear p296
                              try clear p6
                              try clear q2
                              try clear q28
                              try clear q284
                              try clear q288
                              try clear q295
                              try clear q296
                              obtain ⟨kq, x102_37, rfl, HA, HJ37, BK283, HB⟩ := hcut
                              cases kq with
                              | zero => exact absurd HA.out (by simp [marchlandref05_Check.j5])
                              | succ kj37 =>
                                have H := HA.out
                                clear HA
                                simp only [marchlandref05_Check.j5] at H
                                by_cases c44 : x102_37 = true
                                · subst c44
                                  have H1 : (some ((([(⟨(⟨#[105, 110, 112, 117, 116]⟩ : ByteArray), x7_4⟩ : S42)] : List (S42))), 2)) = some (r1, r2) := by rw [if_pos rfl] at H; exact H
                                  clear H
                                  have H := H1
                                  clear H1
                                  obtain ⟨y297, hy297⟩ : ∃ y_ : List (S42), y_ = (([(⟨(⟨#[105, 110, 112, 117, 116]⟩ : ByteArray), x7_4⟩ : S42)] : List (S42))) := ⟨_, rfl⟩
                                  replace H : (some (y297, 2)) = some (r1, r2) := by first | (rw [hy297]; with_reducible exact H) | (have H2_ := (Option.bind_some _ _).symm.trans H; rw [hy297]; with_reducible exact H2_) | (have H2_ := (Option.bind_some _ _).symm.trans H; with_reducible exact H2_) | with_reducible exact H | (rw [hy297]; exact H) | exact H
                                  have Ny297 := Aside0.mk hy297
                                  clear hy297
                                  simp only [Option.some.injEq, Prod.mk.injEq] at H
                                  obtain ⟨rfl, rfl⟩ := H
                                  go_wp2_with (first | ((with_reducible refine gate_dst (N := 105) rfl ?_); (try (refine gate_guard (by rfl) ?_; dsimp only)); refine Kd.R_lit k42 _ 42 ?hg (N := 105) ?hd (xs := ([(⟨(⟨#[105, 110, 112, 117, 116]⟩ : ByteArray), x7_4⟩ : S42)] : List (S42))) (inner := [.string (⟨#[105, 110, 112, 117, 116]⟩ : ByteArray), .int .i64 x7_4]) (ok := fun _ => True) (okp := fun _ => True) ?hr ?hp (fun _ hk => hk) trivial (Below.refl _ _) (Nat.le_refl _) (by simp) ?_; (case hd => rfl); (case hg => rfl); (case hr => first | (go_simp; done) | (go_simp; rfl)); (case hp => exact (Reps.c2 (show Kd.M k42 _ _ _ (⟨(⟨#[105, 110, 112, 117, 116]⟩ : ByteArray), x7_4⟩ : S42) [.string (⟨#[105, 110, 112, 117, 116]⟩ : ByteArray), .int .i64 x7_4] from (k42_mkM _ _ _ (⟨(⟨#[105, 110, 112, 117, 116]⟩ : ByteArray), x7_4⟩ : S42) )) (Reps.none _ _))); intro v298 w45 ho46 hb hg_ hnew_; clear hg_ hnew_; (first | rw [← Ny297.out] at ho46 | (simp only [Int.reduceToNat] at ho46; rw [← Ny297.out] at ho46)); have n0_ := Aside0.mk (Kd.R_lower ho46 (below_size (by repeat (first | (with_reducible first | exact HB.out | apply below_alloc | apply pw_below_drewN | apply below_drew1 | refine below_set ?_ GE283.out) | exact HB.out)))); have n1_ := Aside0.mk (blk_below (g := gb283) (o := .cells #[.int .i64 a0_0, .slice A0_1 l0_1.length c0_1, .slice A0_2 l0_2.length c0_2] 59 (0, 0)) (by (with_reducible repeat (first | refine blk_drewN ?_ _ | refine blk_drew ?_ | refine blk_alloc ?_ _)); exact BK283.out) hb); have n2_ := Aside0.mk (below_step (by repeat (first | (with_reducible first | exact HB.out | apply below_alloc | apply pw_below_drewN | apply below_drew1 | refine below_set ?_ GE283.out) | exact HB.out)) hb); clear BK283; clear HB; have HO299 := n0_; have BK283 := n1_; have HB := n2_; clear n0_ n1_ n2_; clear hb ho46))
                                  repeat (go_quiet (first | ((with_reducible refine gate_dst (N := 105) rfl ?_); (try (refine gate_guard (by rfl) ?_; dsimp only)); refine Kd.R_lit k42 _ 42 ?hg (N := 105) ?hd (xs := ([(⟨(⟨#[105, 110, 112, 117, 116]⟩ : ByteArray), x7_4⟩ : S42)] : List (S42))) (inner := [.string (⟨#[105, 110, 112, 117, 116]⟩ : ByteArray), .int .i64 x7_4]) (ok := fun _ => True) (okp := fun _ => True) ?hr ?hp (fun _ hk => hk) trivial (Below.refl _ _) (Nat.le_refl _) (by simp) ?_; (case hd => rfl); (case hg => rfl); (case hr => first | (go_simp; done) | (go_simp; rfl)); (case hp => exact (Reps.c2 (show Kd.M k42 _ _ _ (⟨(⟨#[105, 110, 112, 117, 116]⟩ : ByteArray), x7_4⟩ : S42) [.string (⟨#[105, 110, 112, 117, 116]⟩ : ByteArray), .int .i64 x7_4] from (k42_mkM _ _ _ (⟨(⟨#[105, 110, 112, 117, 116]⟩ : ByteArray), x7_4⟩ : S42) )) (Reps.none _ _))); intro v298 w45 ho46 hb hg_ hnew_; clear hg_ hnew_; (first | rw [← Ny297.out] at ho46 | (simp only [Int.reduceToNat] at ho46; rw [← Ny297.out] at ho46)); have n0_ := Aside0.mk (Kd.R_lower ho46 (below_size (by repeat (first | (with_reducible first | exact HB.out | apply below_alloc | apply pw_below_drewN | apply below_drew1 | refine below_set ?_ GE283.out) | exact HB.out)))); have n1_ := Aside0.mk (blk_below (g := gb283) (o := .cells #[.int .i64 a0_0, .slice A0_1 l0_1.length c0_1, .slice A0_2 l0_2.length c0_2] 59 (0, 0)) (by (with_reducible repeat (first | refine blk_drewN ?_ _ | refine blk_drew ?_ | refine blk_alloc ?_ _)); exact BK283.out) hb); have n2_ := Aside0.mk (below_step (by repeat (first | (with_reducible first | exact HB.out | apply below_alloc | apply pw_below_drewN | apply below_drew1 | refine below_set ?_ GE283.out) | exact HB.out)) hb); clear BK283; clear HB; have HO299 := n0_; have BK283 := n1_; have HB := n2_; clear n0_ n1_ n2_; clear hb ho46)); try go_wp2_with (first | ((with_reducible refine gate_dst (N := 105) rfl ?_); (try (refine gate_guard (by rfl) ?_; dsimp only)); refine Kd.R_lit k42 _ 42 ?hg (N := 105) ?hd (xs := ([(⟨(⟨#[105, 110, 112, 117, 116]⟩ : ByteArray), x7_4⟩ : S42)] : List (S42))) (inner := [.string (⟨#[105, 110, 112, 117, 116]⟩ : ByteArray), .int .i64 x7_4]) (ok := fun _ => True) (okp := fun _ => True) ?hr ?hp (fun _ hk => hk) trivial (Below.refl _ _) (Nat.le_refl _) (by simp) ?_; (case hd => rfl); (case hg => rfl); (case hr => first | (go_simp; done) | (go_simp; rfl)); (case hp => exact (Reps.c2 (show Kd.M k42 _ _ _ (⟨(⟨#[105, 110, 112, 117, 116]⟩ : ByteArray), x7_4⟩ : S42) [.string (⟨#[105, 110, 112, 117, 116]⟩ : ByteArray), .int .i64 x7_4] from (k42_mkM _ _ _ (⟨(⟨#[105, 110, 112, 117, 116]⟩ : ByteArray), x7_4⟩ : S42) )) (Reps.none _ _))); intro v298 w45 ho46 hb hg_ hnew_; clear hg_ hnew_; (first | rw [← Ny297.out] at ho46 | (simp only [Int.reduceToNat] at ho46; rw [← Ny297.out] at ho46)); have n0_ := Aside0.mk (Kd.R_lower ho46 (below_size (by repeat (first | (with_reducible first | exact HB.out | apply below_alloc | apply pw_below_drewN | apply below_drew1 | refine below_set ?_ GE283.out) | exact HB.out)))); have n1_ := Aside0.mk (blk_below (g := gb283) (o := .cells #[.int .i64 a0_0, .slice A0_1 l0_1.length c0_1, .slice A0_2 l0_2.length c0_2] 59 (0, 0)) (by (with_reducible repeat (first | refine blk_drewN ?_ _ | refine blk_drew ?_ | refine blk_alloc ?_ _)); exact BK283.out) hb); have n2_ := Aside0.mk (below_step (by repeat (first | (with_reducible first | exact HB.out | apply below_alloc | apply pw_below_drewN | apply below_drew1 | refine below_set ?_ GE283.out) | exact HB.out)) hb); clear BK283; clear HB; have HO299 := n0_; have BK283 := n1_; have HB := n2_; clear n0_ n1_ n2_; clear hb ho46)))
                                  go_ret2
                                  exact ⟨_, by first | rfl | (simp [errW_none, errW_some] <;> rfl) | (simp [*, errW_none, errW_some] <;> rfl), by (with_reducible repeat (first | apply Kd.R_alloc | apply Kd.R_drewN | apply Kd.R_drew)); exact HO299.out, by repeat (first | (with_reducible first | exact HB.out | apply below_alloc | apply pw_below_drewN | apply below_drew1 | refine below_set ?_ GE283.out) | exact HB.out)⟩
                                · replace c44 := Bool.eq_false_iff.mpr c44
                                  subst c44
                                  have H1 : (marchlandref05_Check.l2 kj37 x7_4 0 a0_0 l0_1 l0_2) = some (r1, r2) := by rw [if_neg (show ¬ (false = true) by decide)] at H; exact H
                                  clear H
                                  have H := H1
                                  clear H1
                                  have H' := Aside0.mk H
                                  clear H
                                  go_wp2
                                  repeat (go_quiet (fail); try go_wp2)
                                  go_loopg [8] kj37 (fun kq v8 w' => ∃ (x8_6 : Int), v8 = .int .i64 x8_6 ∧ Aside0 (marchlandref05_Check.l2 kq x7_4 x8_6 a0_0 l0_1 l0_2 = some (r1, r2)) ∧ Aside0 (kq ≤ kj37) ∧ Aside0 (w'.heap[gb283]? = some (.cells #[.int .i64 a0_0, (.slice A0_1 l0_1.length c0_1), (.slice A0_2 l0_2.length c0_2)] 59 (0, 0))) ∧ Aside0 (Below w.heap.size w w'))
                                  case atStart => exact ⟨(0), (by first | rfl | (simp; done) | (simp [*]; done)), H', ⟨Nat.le_refl _⟩, ⟨by (with_reducible repeat (first | refine blk_drewN ?_ _ | refine blk_drew ?_ | refine blk_alloc ?_ _)); exact BK283.out⟩, ⟨by repeat (first | (with_reducible first | exact HB.out | apply below_alloc | apply pw_below_drewN | apply below_drew1 | refine below_set ?_ GE283.out) | exact HB.out)⟩⟩
                                  case round =>
                                    clear H'
                                    try clear c1
                                    try clear c2
                                    try clear p2
                                    try clear q2
                                    try clear hx2
                                    try clear c3
                                    try clear c4
                                    try clear c4b0
                                    try clear p6
                                    try clear c7
                                    try clear c8
                                    try clear c8b0
                                    try clear c8b1
                                    try clear c11
                                    try clear c11b0
                                    try clear c12
                                    try clear c12b0
                                    try clear c15
                                    try clear c15b0
                                    try clear c17
                                    try clear c20
                                    try clear c20b0
                                    try clear c21
                                    try clear c21b0
                                    try clear c22
                                    try clear c22b0
                                    try clear c26
                                    try clear c26b0
                                    try clear p28
                                    try clear q28
                                    try clear hx28
                                    try clear p29
                                    try clear q29
                                    try clear hx29
                                    try clear c33
                                    try clear c33b0
                                    try clear c33b1
                                    try clear c36
                                    try clear c37
                                    try clear c37b0
                                    try clear c40
                                    try clear c40b0
                                    try clear c41
                                    try clear c41b0
                                    try clear c44
                                    try clear hcz10_0
                                    try clear hcz10_1
                                    try clear hcz10_2
                                    try clear hcz14_0
                                    try clear hcz14_1
                                    try clear hcz14_2
                                    try clear hcz16_0
                                    try clear hcz16_1
                                    try clear hcz16_2
                                    try clear hcz23_0
                                    try clear hcz23_1
                                    try clear hcz23_2
                                    try clear hcz27_0
                                    try clear hcz27_1
                                    try clear hcz27_2
                                    try clear hcz30_0
                                    try clear hcz30_1
                                    try clear hcz30_2
                                    try clear hcz32_0
                                    try clear hcz32_1
                                    try clear hcz32_2
                                    try clear hcz34_0
                                    try clear hcz34_1
                                    try clear hcz34_2
                                    try clear hcz35_0
                                    try clear hcz35_1
                                    try clear hcz35_2
                                    try clear hcz39_0
                                    try clear hcz39_1
                                    try clear hcz39_2
                                    try clear hcz42_0
                                    try clear hcz42_1
                                    try clear hcz42_2
                                    try clear hcz43_0
                                    try clear hcz43_1
                                    try clear hcz43_2
                                    try clear hcz5_0
                                    try clear hcz5_1
                                    try clear hcz5_2
                                    try clear hcz6_0
                                    try clear hcz6_1
                                    try clear hcz6_2
                                    try clear hcz9_0
                                    try clear hcz9_1
                                    try clear hcz9_2
                                    try clear hfz10_0
                                    try clear hfz10_1
                                    try clear hfz10_2
                                    try clear hfz14_0
                                    try clear hfz14_1
                                    try clear hfz14_2
                                    try clear hfz16_0
                                    try clear hfz16_1
                                    try clear hfz16_2
                                    try clear hfz23_0
                                    try clear hfz23_1
                                    try clear hfz23_2
                                    try clear hfz27_0
                                    try clear hfz27_1
                                    try clear hfz27_2
                                    try clear hfz30_0
                                    try clear hfz30_1
                                    try clear hfz30_2
                                    try clear hfz32_0
                                    try clear hfz32_1
                                    try clear hfz32_2
                                    try clear hfz34_0
                                    try clear hfz34_1
                                    try clear hfz34_2
                                    try clear hfz35_0
                                    try clear hfz35_1
                                    try clear hfz35_2
                                    try clear hfz39_0
                                    try clear hfz39_1
                                    try clear hfz39_2
                                    try clear hfz42_0
                                    try clear hfz42_1
                                    try clear hfz42_2
                                    try clear hfz43_0
                                    try clear hfz43_1
                                    try clear hfz43_2
                                    try clear hfz5_0
                                    try clear hfz5_1
                                    try clear hfz5_2
                                    try clear hfz6_0
                                    try clear hfz6_1
                                    try clear hfz6_2
                                    try clear hfz9_0
                                    try clear hfz9_1
                                    try clear hfz9_2
                                    try clear hx284_0
                                    try clear hx284_1
                                    try clear hx284_2
                                    try clear hx288_0
                                    try clear hx288_1
                                    try clear hx288_2
                                    try clear hx295_0
                                    try clear hx296_0
                                    try clear p2
                                    try clear p28
                                    try clear p284
                                    try clear p288
                                    try clear p29
                                    try clear p295
                                    try clear p296
                                    try clear p6
                                    try clear q2
                                    try clear q28
                                    try clear q284
                                    try clear q288
                                    try clear q29
                                    try clear q295
                                    try clear q296
                                    obtain ⟨x8_6, rfl, HA, HK6, BK283, HB⟩ := hrel
                                    cases gk with
                                    | zero => exact absurd HA.out (by simp [marchlandref05_Check.l2])
                                    | succ k6 =>
                                      have H := HA.out
                                      clear HA
                                      simp only [marchlandref05_Check.l2] at H
                                      by_cases c47 : x8_6 < x7_4
                                      · rw [if_pos c47] at H
                                        have c47b0 : decide (x8_6 < x7_4) = true := decide_eq_true c47
                                        clear c47
                                        by_cases c48 : 0 ≤ x8_6
                                        · rw [if_pos c48] at H
                                          have c48b0 : decide (0 ≤ x8_6) = true := decide_eq_true c48
                                          clear c48
                                          by_cases c49 : x8_6 < (l0_2.length : Int)
                                          · rw [if_pos c49] at H
                                            have c49b0 : decide (x8_6 < (l0_2.length : Int)) = true := decide_eq_true c49
                                            clear c49
                                            by_cases c50 : 0 ≤ x7_4
                                            · rw [if_pos c50] at H
                                              have c50b0 : decide (0 ≤ x7_4) = true := decide_eq_true c50
                                              clear c50
                                              by_cases c51 : x7_4 < (l0_2.length : Int)
                                              · rw [if_pos c51] at H
                                                have c51b0 : decide (x7_4 < (l0_2.length : Int)) = true := decide_eq_true c51
                                                clear c51
                                                by_cases c52 : (rd l0_2 x8_6) = (rd l0_2 x7_4)
                                                · rw [if_pos c52] at H
                                                  have c52b0 : ((rd l0_2 x8_6) == (rd l0_2 x7_4)) = true := beq_iff_eq.mpr c52
                                                  have c52b1 : ((rd l0_2 x8_6) != (rd l0_2 x7_4)) = false := bne_eq_false_iff_eq.mpr c52
                                                  clear c52
                                                  obtain ⟨y302, hy302⟩ : ∃ y_ : List (S42), y_ = (([(⟨(⟨#[105, 110, 112, 117, 116]⟩ : ByteArray), x7_4⟩ : S42)] : List (S42))) := ⟨_, rfl⟩
                                                  replace H : (some (y302, 1)) = some (r1, r2) := by first | (rw [hy302]; with_reducible exact H) | (have H2_ := (Option.bind_some _ _).symm.trans H; rw [hy302]; with_reducible exact H2_) | (have H2_ := (Option.bind_some _ _).symm.trans H; with_reducible exact H2_) | with_reducible exact H | (rw [hy302]; exact H) | exact H
                                                  have Ny302 := Aside0.mk hy302
                                                  clear hy302
                                                  simp only [Option.some.injEq, Prod.mk.injEq] at H
                                                  obtain ⟨rfl, rfl⟩ := H
                                                  have hcz53_0 : wr.cell? ⟨gb283, 0, none⟩ = some (.int .i64 a0_0) := (blk_cell BK283.out 0).trans rfl
                                                  have hcz53_1 : wr.cell? ⟨gb283, 1, none⟩ = some (.slice A0_1 l0_1.length c0_1) := (blk_cell BK283.out 1).trans rfl
                                                  have hcz53_2 : wr.cell? ⟨gb283, 2, none⟩ = some (.slice A0_2 l0_2.length c0_2) := (blk_cell BK283.out 2).trans rfl
                                                  have hfz53_0 := blk_frozen BK283.out 0
                                                  have hfz53_1 := blk_frozen BK283.out 1
                                                  have hfz53_2 := blk_frozen BK283.out 2
                                                  have p300 : 0 ≤ (x8_6 : Int) := of_decide_eq_true (by first | (with_reducible assumption) | assumption)
                                                  have q300 : x8_6 < (l0_2.length : Int) := of_decide_eq_true (by first | (with_reducible assumption) | assumption)
                                                  obtain ⟨ad300, e300, hx300_0⟩ := Kd.at_int HR0_2.out x8_6 p300 q300
                                                  cases e300
                                                  replace hx300_0 := (HB.out.cell (World.block_lt_of_cell? w _ hx300_0)).trans hx300_0
                                                  replace p300 := eq_true p300
                                                  replace q300 := eq_true q300
                                                  have p301 : 0 ≤ (x7_4 : Int) := of_decide_eq_true (by first | (with_reducible assumption) | assumption)
                                                  have q301 : x7_4 < (l0_2.length : Int) := of_decide_eq_true (by first | (with_reducible assumption) | assumption)
                                                  obtain ⟨ad301, e301, hx301_0⟩ := Kd.at_int HR0_2.out x7_4 p301 q301
                                                  obtain rfl : ad300 = ad301 := (by injection e301)
                                                  replace hx301_0 := (HB.out.cell (World.block_lt_of_cell? w _ hx301_0)).trans hx301_0
                                                  replace p301 := eq_true p301
                                                  replace q301 := eq_true q301
                                                  go_wp2_with (first | ((with_reducible refine gate_dst (N := 124) rfl ?_); (try (refine gate_guard (by rfl) ?_; dsimp only)); refine Kd.R_lit k42 _ 42 ?hg (N := 124) ?hd (xs := ([(⟨(⟨#[105, 110, 112, 117, 116]⟩ : ByteArray), x7_4⟩ : S42)] : List (S42))) (inner := [.string (⟨#[105, 110, 112, 117, 116]⟩ : ByteArray), .int .i64 x7_4]) (ok := fun _ => True) (okp := fun _ => True) ?hr ?hp (fun _ hk => hk) trivial (Below.refl _ _) (Nat.le_refl _) (by simp) ?_; (case hd => rfl); (case hg => rfl); (case hr => first | (go_simp; done) | (go_simp; rfl)); (case hp => exact (Reps.c2 (show Kd.M k42 _ _ _ (⟨(⟨#[105, 110, 112, 117, 116]⟩ : ByteArray), x7_4⟩ : S42) [.string (⟨#[105, 110, 112, 117, 116]⟩ : ByteArray), .int .i64 x7_4] from (k42_mkM _ _ _ (⟨(⟨#[105, 110, 112, 117, 116]⟩ : ByteArray), x7_4⟩ : S42) )) (Reps.none _ _))); intro v303 w54 ho55 hb hg_ hnew_; clear hg_ hnew_; (first | rw [← Ny302.out] at ho55 | (simp only [Int.reduceToNat] at ho55; rw [← Ny302.out] at ho55)); have n0_ := Aside0.mk (Kd.R_lower ho55 (below_size (by repeat (first | (with_reducible first | exact HB.out | apply below_alloc | apply pw_below_drewN | apply below_drew1 | refine below_set ?_ GE283.out) | exact HB.out)))); have n1_ := Aside0.mk (blk_below (g := gb283) (o := .cells #[.int .i64 a0_0, .slice A0_1 l0_1.length c0_1, .slice (some ad300) l0_2.length c0_2] 59 (0, 0)) (by (with_reducible repeat (first | refine blk_drewN ?_ _ | refine blk_drew ?_ | refine blk_alloc ?_ _)); exact BK283.out) hb); have n2_ := Aside0.mk (below_step (by repeat (first | (with_reducible first | exact HB.out | apply below_alloc | apply pw_below_drewN | apply below_drew1 | refine below_set ?_ GE283.out) | exact HB.out)) hb); clear BK283; clear HB; have HO304 := n0_; have BK283 := n1_; have HB := n2_; clear n0_ n1_ n2_; clear hb ho55))
                                                  repeat (go_quiet (first | ((with_reducible refine gate_dst (N := 124) rfl ?_); (try (refine gate_guard (by rfl) ?_; dsimp only)); refine Kd.R_lit k42 _ 42 ?hg (N := 124) ?hd (xs := ([(⟨(⟨#[105, 110, 112, 117, 116]⟩ : ByteArray), x7_4⟩ : S42)] : List (S42))) (inner := [.string (⟨#[105, 110, 112, 117, 116]⟩ : ByteArray), .int .i64 x7_4]) (ok := fun _ => True) (okp := fun _ => True) ?hr ?hp (fun _ hk => hk) trivial (Below.refl _ _) (Nat.le_refl _) (by simp) ?_; (case hd => rfl); (case hg => rfl); (case hr => first | (go_simp; done) | (go_simp; rfl)); (case hp => exact (Reps.c2 (show Kd.M k42 _ _ _ (⟨(⟨#[105, 110, 112, 117, 116]⟩ : ByteArray), x7_4⟩ : S42) [.string (⟨#[105, 110, 112, 117, 116]⟩ : ByteArray), .int .i64 x7_4] from (k42_mkM _ _ _ (⟨(⟨#[105, 110, 112, 117, 116]⟩ : ByteArray), x7_4⟩ : S42) )) (Reps.none _ _))); intro v303 w54 ho55 hb hg_ hnew_; clear hg_ hnew_; (first | rw [← Ny302.out] at ho55 | (simp only [Int.reduceToNat] at ho55; rw [← Ny302.out] at ho55)); have n0_ := Aside0.mk (Kd.R_lower ho55 (below_size (by repeat (first | (with_reducible first | exact HB.out | apply below_alloc | apply pw_below_drewN | apply below_drew1 | refine below_set ?_ GE283.out) | exact HB.out)))); have n1_ := Aside0.mk (blk_below (g := gb283) (o := .cells #[.int .i64 a0_0, .slice A0_1 l0_1.length c0_1, .slice (some ad300) l0_2.length c0_2] 59 (0, 0)) (by (with_reducible repeat (first | refine blk_drewN ?_ _ | refine blk_drew ?_ | refine blk_alloc ?_ _)); exact BK283.out) hb); have n2_ := Aside0.mk (below_step (by repeat (first | (with_reducible first | exact HB.out | apply below_alloc | apply pw_below_drewN | apply below_drew1 | refine below_set ?_ GE283.out) | exact HB.out)) hb); clear BK283; clear HB; have HO304 := n0_; have BK283 := n1_; have HB := n2_; clear n0_ n1_ n2_; clear hb ho55)); try go_wp2_with (first | ((with_reducible refine gate_dst (N := 124) rfl ?_); (try (refine gate_guard (by rfl) ?_; dsimp only)); refine Kd.R_lit k42 _ 42 ?hg (N := 124) ?hd (xs := ([(⟨(⟨#[105, 110, 112, 117, 116]⟩ : ByteArray), x7_4⟩ : S42)] : List (S42))) (inner := [.string (⟨#[105, 110, 112, 117, 116]⟩ : ByteArray), .int .i64 x7_4]) (ok := fun _ => True) (okp := fun _ => True) ?hr ?hp (fun _ hk => hk) trivial (Below.refl _ _) (Nat.le_refl _) (by simp) ?_; (case hd => rfl); (case hg => rfl); (case hr => first | (go_simp; done) | (go_simp; rfl)); (case hp => exact (Reps.c2 (show Kd.M k42 _ _ _ (⟨(⟨#[105, 110, 112, 117, 116]⟩ : ByteArray), x7_4⟩ : S42) [.string (⟨#[105, 110, 112, 117, 116]⟩ : ByteArray), .int .i64 x7_4] from (k42_mkM _ _ _ (⟨(⟨#[105, 110, 112, 117, 116]⟩ : ByteArray), x7_4⟩ : S42) )) (Reps.none _ _))); intro v303 w54 ho55 hb hg_ hnew_; clear hg_ hnew_; (first | rw [← Ny302.out] at ho55 | (simp only [Int.reduceToNat] at ho55; rw [← Ny302.out] at ho55)); have n0_ := Aside0.mk (Kd.R_lower ho55 (below_size (by repeat (first | (with_reducible first | exact HB.out | apply below_alloc | apply pw_below_drewN | apply below_drew1 | refine below_set ?_ GE283.out) | exact HB.out)))); have n1_ := Aside0.mk (blk_below (g := gb283) (o := .cells #[.int .i64 a0_0, .slice A0_1 l0_1.length c0_1, .slice (some ad300) l0_2.length c0_2] 59 (0, 0)) (by (with_reducible repeat (first | refine blk_drewN ?_ _ | refine blk_drew ?_ | refine blk_alloc ?_ _)); exact BK283.out) hb); have n2_ := Aside0.mk (below_step (by repeat (first | (with_reducible first | exact HB.out | apply below_alloc | apply pw_below_drewN | apply below_drew1 | refine below_set ?_ GE283.out) | exact HB.out)) hb); clear BK283; clear HB; have HO304 := n0_; have BK283 := n1_; have HB := n2_; clear n0_ n1_ n2_; clear hb ho55)))
                                                  go_ret2
                                                  exact ⟨_, by first | rfl | (simp [errW_none, errW_some] <;> rfl) | (simp [*, errW_none, errW_some] <;> rfl), by (with_reducible repeat (first | apply Kd.R_alloc | apply Kd.R_drewN | apply Kd.R_drew)); exact HO304.out, by repeat (first | (with_reducible first | exact HB.out | apply below_alloc | apply pw_below_drewN | apply below_drew1 | refine below_set ?_ GE283.out) | exact HB.out)⟩
                                                · rw [if_neg c52] at H
                                                  have c52b0 : ((rd l0_2 x8_6) == (rd l0_2 x7_4)) = false := beq_eq_false_iff_ne.mpr c52
                                                  have c52b1 : ((rd l0_2 x8_6) != (rd l0_2 x7_4)) = true := bne_iff_ne.mpr c52
                                                  have H' := Aside0.mk H
                                                  clear H
                                                  have hcz56_0 : wr.cell? ⟨gb283, 0, none⟩ = some (.int .i64 a0_0) := (blk_cell BK283.out 0).trans rfl
                                                  have hcz56_1 : wr.cell? ⟨gb283, 1, none⟩ = some (.slice A0_1 l0_1.length c0_1) := (blk_cell BK283.out 1).trans rfl
                                                  have hcz56_2 : wr.cell? ⟨gb283, 2, none⟩ = some (.slice A0_2 l0_2.length c0_2) := (blk_cell BK283.out 2).trans rfl
                                                  have hfz56_0 := blk_frozen BK283.out 0
                                                  have hfz56_1 := blk_frozen BK283.out 1
                                                  have hfz56_2 := blk_frozen BK283.out 2
                                                  have p300 : 0 ≤ (x8_6 : Int) := of_decide_eq_true (by first | (with_reducible assumption) | assumption)
                                                  have q300 : x8_6 < (l0_2.length : Int) := of_decide_eq_true (by first | (with_reducible assumption) | assumption)
                                                  obtain ⟨ad300, e300, hx300_0⟩ := Kd.at_int HR0_2.out x8_6 p300 q300
                                                  cases e300
                                                  replace hx300_0 := (HB.out.cell (World.block_lt_of_cell? w _ hx300_0)).trans hx300_0
                                                  replace p300 := eq_true p300
                                                  replace q300 := eq_true q300
                                                  have p301 : 0 ≤ (x7_4 : Int) := of_decide_eq_true (by first | (with_reducible assumption) | assumption)
                                                  have q301 : x7_4 < (l0_2.length : Int) := of_decide_eq_true (by first | (with_reducible assumption) | assumption)
                                                  obtain ⟨ad301, e301, hx301_0⟩ := Kd.at_int HR0_2.out x7_4 p301 q301
                                                  obtain rfl : ad300 = ad301 := (by injection e301)
                                                  replace hx301_0 := (HB.out.cell (World.block_lt_of_cell? w _ hx301_0)).trans hx301_0
                                                  replace p301 := eq_true p301
                                                  replace q301 := eq_true q301
                                                  go_wp2
                                                  repeat (go_quiet (fail); try go_wp2)
                                                  go_roundg k6
                                                  case measure => have := HJ1.out; have := HK2.out; have := HJ30.out; have := HK4.out; have := HJ37.out; have := HK6.out; omega
                                                  case rel => exact ⟨(wrap64 (x8_6 + 1)), (by first | rfl | (simp; done) | (simp [*]; done)), H', ⟨by have := HJ1.out; have := HK2.out; have := HJ30.out; have := HK4.out; have := HJ37.out; have := HK6.out; omega⟩, ⟨by (with_reducible repeat (first | refine blk_drewN ?_ _ | refine blk_drew ?_ | refine blk_alloc ?_ _)); exact BK283.out⟩, ⟨by repeat (first | (with_reducible first | exact HB.out | apply below_alloc | apply pw_below_drewN | apply below_drew1 | refine below_set ?_ GE283.out) | exact HB.out)⟩⟩
                                              · rw [if_neg c51] at H
                                                exact absurd H (by simp)
                                            · rw [if_neg c50] at H
                                              exact absurd H (by simp)
                                          · rw [if_neg c49] at H
                                            exact absurd H (by simp)
                                        · rw [if_neg c48] at H
                                          exact absurd H (by simp)
                                      · rw [if_neg c47] at H
                                        have c47b0 : decide (x8_6 < x7_4) = false := decide_eq_false c47
                                        clear c47
                                        have H' := Aside0.mk H
                                        clear H
                                        go_wp2
                                        repeat (go_quiet (fail); try go_wp2)
                                        go_roundg k6
                                        case measure => have := HJ1.out; have := HK2.out; have := HJ30.out; have := HK4.out; have := HJ37.out; have := HK6.out; omega
                                        case rel => exact ⟨(wrap64 (x7_4 + 1)), (by first | rfl | (simp; done) | (simp [*]; done)), H', ⟨by have := HJ1.out; have := HK2.out; have := HJ30.out; have := HK4.out; have := HJ37.out; have := HK6.out; omega⟩, ⟨by (with_reducible repeat (first | refine blk_drewN ?_ _ | refine blk_drew ?_ | refine blk_alloc ?_ _)); exact BK283.out⟩, ⟨by repeat (first | (with_reducible first | exact HB.out | apply below_alloc | apply pw_below_drewN | apply below_drew1 | refine below_set ?_ GE283.out) | exact HB.out)⟩⟩
                          · rw [if_neg c37] at H
                            have c37b0 : decide (x7_4 < (l0_2.length : Int)) = false := decide_eq_false c37
                            clear c37
                            replace H := Option.bind_eq_some_iff.mp H
                            obtain ⟨t305, A570, H⟩ := H
                            replace H : (marchlandref05_Check.l3 k4 t305 0 a0_0 l0_1 l0_2) = some (r1, r2) := H
                            have A57 := Aside0.mk A570
                            clear A570
                            have H' := Aside0.mk H
                            clear H
                            have hcz58_0 : wr.cell? ⟨gb283, 0, none⟩ = some (.int .i64 a0_0) := (blk_cell BK283.out 0).trans rfl
                            have hcz58_1 : wr.cell? ⟨gb283, 1, none⟩ = some (.slice A0_1 l0_1.length c0_1) := (blk_cell BK283.out 1).trans rfl
                            have hcz58_2 : wr.cell? ⟨gb283, 2, none⟩ = some (.slice A0_2 l0_2.length c0_2) := (blk_cell BK283.out 2).trans rfl
                            have hfz58_0 := blk_frozen BK283.out 0
                            have hfz58_1 := blk_frozen BK283.out 1
                            have hfz58_2 := blk_frozen BK283.out 2
                            go_wp2_with (first | (go_at_call 71; (with_reducible refine (marchlandref05_closed.calls k4 a0_0 _ _ l0_1 _ _ l0_2 t305 _ ?side1 ?side2 ?side3 ?side4 A57.out).mono ?_); (case side1 => repeat (first | exact (Kd.C_below HR0_1.out HB.out) | (with_reducible refine Kd.C_alloc ?_ _) | (with_reducible refine Kd.C_drewN ?_ _) | (with_reducible refine Kd.C_drew ?_))); (case side2 => exact HC0_1.out); (case side3 => repeat (first | exact (Kd.C_below HR0_2.out HB.out) | (with_reducible refine Kd.C_alloc ?_ _) | (with_reducible refine Kd.C_drewN ?_ _) | (with_reducible refine Kd.C_drew ?_))); (case side4 => exact HC0_2.out); rintro e w59 ⟨v306, rfl, ho0, hb⟩; have n0_ := Aside0.mk (Kd.S_lower ho0 (below_size (by repeat (first | (with_reducible first | exact HB.out | apply below_alloc | apply pw_below_drewN | apply below_drew1 | refine below_set ?_ GE283.out) | exact HB.out)))); have n1_ := Aside0.mk (blk_below (g := gb283) (o := .cells #[.int .i64 a0_0, .slice A0_1 l0_1.length c0_1, .slice A0_2 l0_2.length c0_2] 59 (0, 0)) (by (with_reducible repeat (first | refine blk_drewN ?_ _ | refine blk_drew ?_ | refine blk_alloc ?_ _)); exact BK283.out) hb); have n2_ := Aside0.mk (below_step (by repeat (first | (with_reducible first | exact HB.out | apply below_alloc | apply pw_below_drewN | apply below_drew1 | refine below_set ?_ GE283.out) | exact HB.out)) hb); clear BK283; clear HB; have HO307 := n0_; have BK283 := n1_; have HB := n2_; clear n0_ n1_ n2_; (try clear hb); (try clear hb2); (try clear hk); (try clear hi); (try clear ho0)))
                            repeat (go_quiet (first | (go_at_call 71; (with_reducible refine (marchlandref05_closed.calls k4 a0_0 _ _ l0_1 _ _ l0_2 t305 _ ?side1 ?side2 ?side3 ?side4 A57.out).mono ?_); (case side1 => repeat (first | exact (Kd.C_below HR0_1.out HB.out) | (with_reducible refine Kd.C_alloc ?_ _) | (with_reducible refine Kd.C_drewN ?_ _) | (with_reducible refine Kd.C_drew ?_))); (case side2 => exact HC0_1.out); (case side3 => repeat (first | exact (Kd.C_below HR0_2.out HB.out) | (with_reducible refine Kd.C_alloc ?_ _) | (with_reducible refine Kd.C_drewN ?_ _) | (with_reducible refine Kd.C_drew ?_))); (case side4 => exact HC0_2.out); rintro e w59 ⟨v306, rfl, ho0, hb⟩; have n0_ := Aside0.mk (Kd.S_lower ho0 (below_size (by repeat (first | (with_reducible first | exact HB.out | apply below_alloc | apply pw_below_drewN | apply below_drew1 | refine below_set ?_ GE283.out) | exact HB.out)))); have n1_ := Aside0.mk (blk_below (g := gb283) (o := .cells #[.int .i64 a0_0, .slice A0_1 l0_1.length c0_1, .slice A0_2 l0_2.length c0_2] 59 (0, 0)) (by (with_reducible repeat (first | refine blk_drewN ?_ _ | refine blk_drew ?_ | refine blk_alloc ?_ _)); exact BK283.out) hb); have n2_ := Aside0.mk (below_step (by repeat (first | (with_reducible first | exact HB.out | apply below_alloc | apply pw_below_drewN | apply below_drew1 | refine below_set ?_ GE283.out) | exact HB.out)) hb); clear BK283; clear HB; have HO307 := n0_; have BK283 := n1_; have HB := n2_; clear n0_ n1_ n2_; (try clear hb); (try clear hb2); (try clear hk); (try clear hi); (try clear ho0))); try go_wp2_with (first | (go_at_call 71; (with_reducible refine (marchlandref05_closed.calls k4 a0_0 _ _ l0_1 _ _ l0_2 t305 _ ?side1 ?side2 ?side3 ?side4 A57.out).mono ?_); (case side1 => repeat (first | exact (Kd.C_below HR0_1.out HB.out) | (with_reducible refine Kd.C_alloc ?_ _) | (with_reducible refine Kd.C_drewN ?_ _) | (with_reducible refine Kd.C_drew ?_))); (case side2 => exact HC0_1.out); (case side3 => repeat (first | exact (Kd.C_below HR0_2.out HB.out) | (with_reducible refine Kd.C_alloc ?_ _) | (with_reducible refine Kd.C_drewN ?_ _) | (with_reducible refine Kd.C_drew ?_))); (case side4 => exact HC0_2.out); rintro e w59 ⟨v306, rfl, ho0, hb⟩; have n0_ := Aside0.mk (Kd.S_lower ho0 (below_size (by repeat (first | (with_reducible first | exact HB.out | apply below_alloc | apply pw_below_drewN | apply below_drew1 | refine below_set ?_ GE283.out) | exact HB.out)))); have n1_ := Aside0.mk (blk_below (g := gb283) (o := .cells #[.int .i64 a0_0, .slice A0_1 l0_1.length c0_1, .slice A0_2 l0_2.length c0_2] 59 (0, 0)) (by (with_reducible repeat (first | refine blk_drewN ?_ _ | refine blk_drew ?_ | refine blk_alloc ?_ _)); exact BK283.out) hb); have n2_ := Aside0.mk (below_step (by repeat (first | (with_reducible first | exact HB.out | apply below_alloc | apply pw_below_drewN | apply below_drew1 | refine below_set ?_ GE283.out) | exact HB.out)) hb); clear BK283; clear HB; have HO307 := n0_; have BK283 := n1_; have HB := n2_; clear n0_ n1_ n2_; (try clear hb); (try clear hb2); (try clear hk); (try clear hi); (try clear ho0))))
                            go_loopg [10] k4 (fun kq v10 w' => ∃ (x10_5 : Int), v10 = .int .i64 x10_5 ∧ Aside0 (marchlandref05_Check.l3 kq t305 x10_5 a0_0 l0_1 l0_2 = some (r1, r2)) ∧ Aside0 (kq ≤ k4) ∧ Aside0 (Kd.S (Kd.slice 22 (Kd.int .u64)) 73 w' w.heap.size (fun _ => True) v306 t305) ∧ Aside0 (w'.heap[gb283]? = some (.cells #[.int .i64 a0_0, (.slice A0_1 l0_1.length c0_1), (.slice A0_2 l0_2.length c0_2)] 59 (0, 0))) ∧ Aside0 (Below w.heap.size w w'))
                            case atStart => exact ⟨(0), (by first | rfl | (simp; done) | (simp [*]; done)), H', ⟨Nat.le_refl _⟩, ⟨by (with_reducible repeat (first | apply Kd.S_alloc | apply Kd.S_drewN | apply Kd.S_drew)); exact HO307.out⟩, ⟨by (with_reducible repeat (first | refine blk_drewN ?_ _ | refine blk_drew ?_ | refine blk_alloc ?_ _)); exact BK283.out⟩, ⟨by repeat (first | (with_reducible first | exact HB.out | apply below_alloc | apply pw_below_drewN | apply below_drew1 | refine below_set ?_ GE283.out) | exact HB.out)⟩⟩
                            case round =>
                              clear H'
                              try clear c1
                              try clear c2
                              try clear p2
                              try clear q2
                              try clear hx2
                              try clear c3
                              try clear p3
                              try clear q3
                              try clear hx3
                              try clear c4
                              try clear c4b0
                              try clear c5
                              try clear p6
                              try clear c7
                              try clear c8
                              try clear c8b0
                              try clear c8b1
                              try clear c11
                              try clear c11b0
                              try clear c12
                              try clear c12b0
                              try clear c15
                              try clear c15b0
                              try clear c17
                              try clear c20
                              try clear c20b0
                              try clear c21
                              try clear c21b0
                              try clear c22
                              try clear c22b0
                              try clear c26
                              try clear c26b0
                              try clear p28
                              try clear q28
                              try clear hx28
                              try clear p29
                              try clear q29
                              try clear hx29
                              try clear p30
                              try clear q30
                              try clear hx30
                              try clear c33
                              try clear c33b0
                              try clear c33b1
                              try clear c36
                              try clear c37
                              try clear c37b0
                              try clear c40
                              try clear c40b0
                              try clear c41
                              try clear c41b0
                              try clear c44
                              try clear c47
                              try clear c47b0
                              try clear c48
                              try clear c48b0
                              try clear c49
                              try clear c49b0
                              try clear c50
                              try clear c50b0
                              try clear c51
                              try clear c51b0
                              try clear c52
                              try clear c52b0
                              try clear c52b1
                              try clear hcz10_0
                              try clear hcz10_1
                              try clear hcz10_2
                              try clear hcz14_0
                              try clear hcz14_1
                              try clear hcz14_2
                              try clear hcz16_0
                              try clear hcz16_1
                              try clear hcz16_2
                              try clear hcz23_0
                              try clear hcz23_1
                              try clear hcz23_2
                              try clear hcz27_0
                              try clear hcz27_1
                              try clear hcz27_2
                              try clear hcz30_0
                              try clear hcz30_1
                              try clear hcz30_2
                              try clear hcz32_0
                              try clear hcz32_1
                              try clear hcz32_2
                              try clear hcz34_0
                              try clear hcz34_1
                              try clear hcz34_2
                              try clear hcz35_0
                              try clear hcz35_1
                              try clear hcz35_2
                              try clear hcz39_0
                              try clear hcz39_1
                              try clear hcz39_2
                              try clear hcz42_0
                              try clear hcz42_1
                              try clear hcz42_2
                              try clear hcz43_0
                              try clear hcz43_1
                              try clear hcz43_2
                              try clear hcz53_0
                              try clear hcz53_1
                              try clear hcz53_2
                              try clear hcz56_0
                              try clear hcz56_1
                              try clear hcz56_2
                              try clear hcz58_0
                              try clear hcz58_1
                              try clear hcz58_2
                              try clear hcz5_0
                              try clear hcz5_1
                              try clear hcz5_2
                              try clear hcz6_0
                              try clear hcz6_1
                              try clear hcz6_2
                              try clear hcz9_0
                              try clear hcz9_1
                              try clear hcz9_2
                              try clear hfz10_0
                              try clear hfz10_1
                              try clear hfz10_2
                              try clear hfz14_0
                              try clear hfz14_1
                              try clear hfz14_2
                              try clear hfz16_0
                              try clear hfz16_1
                              try clear hfz16_2
                              try clear hfz23_0
                              try clear hfz23_1
                              try clear hfz23_2
                              try clear hfz27_0
                              try clear hfz27_1
                              try clear hfz27_2
                              try clear hfz30_0
                              try clear hfz30_1
                              try clear hfz30_2
                              try clear hfz32_0
                              try clear hfz32_1
                              try clear hfz32_2
                              try clear hfz34_0
                              try clear hfz34_1
                              try clear hfz34_2
                              try clear hfz35_0
                              try clear hfz35_1
                              try clear hfz35_2
                              try clear hfz39_0
                              try clear hfz39_1
                              try clear hfz39_2
                              try clear hfz42_0
                              try clear hfz42_1
                              try clear hfz42_2
                              try clear hfz43_0
                              try clear hfz43_1
                              try clear hfz43_2
                              try clear hfz53_0
                              try clear hfz53_1
                              try clear hfz53_2
                              try clear hfz56_0
                              try clear hfz56_1
                              try clear hfz56_2
                              try clear hfz58_0
                              try clear hfz58_1
                              try clear hfz58_2
                              try clear hfz5_0
                              try clear hfz5_1
                              try clear hfz5_2
                              try clear hfz6_0
                              try clear hfz6_1
                              try clear hfz6_2
                              try clear hfz9_0
                              try clear hfz9_1
                              try clear hfz9_2
                              try clear hx284_0
                              try clear hx284_1
                              try clear hx284_2
                              try clear hx288_0
                              try clear hx288_1
                              try clear hx288_2
                              try clear hx295_0
                              try clear hx296_0
                              try clear hx300_0
                              try clear hx301_0
                              try clear p2
                              try clear p28
                              try clear p284
                              try clear p288
                              try clear p29
                              try clear p295
                              try clear p296
                              try clear p300
                              try clear p301
                              try clear p6
                              try clear q2
                              try clear q28
                              try clear q284
                              try clear q288
                              try clear q29
                              try clear q295
                              try clear q296
                              try clear q300
                              try clear q301
                              obtain ⟨x10_5, rfl, HA, HK5, HO_9, BK283, HB⟩ := hrel
                              cases gk with
                              | zero => exact absurd HA.out (by simp [marchlandref05_Check.l3])
                              | succ k5 =>
                                have H := HA.out
                                clear HA
                                simp only [marchlandref05_Check.l3] at H
                                by_cases c60 : x10_5 < a0_0
                                · rw [if_pos c60] at H
                                  have c60b0 : decide (x10_5 < a0_0) = true := decide_eq_true c60
                                  clear c60
                                  have H' := Aside0.mk H
                                  clear H
                                  have hcz61_0 : wr.cell? ⟨gb283, 0, none⟩ = some (.int .i64 a0_0) := (blk_cell BK283.out 0).trans rfl
                                  have hcz61_1 : wr.cell? ⟨gb283, 1, none⟩ = some (.slice A0_1 l0_1.length c0_1) := (blk_cell BK283.out 1).trans rfl
                                  have hcz61_2 : wr.cell? ⟨gb283, 2, none⟩ = some (.slice A0_2 l0_2.length c0_2) := (blk_cell BK283.out 2).trans rfl
                                  have hfz61_0 := blk_frozen BK283.out 0
                                  have hfz61_1 := blk_frozen BK283.out 1
                                  have hfz61_2 := blk_frozen BK283.out 2
                                  go_wp2
                                  repeat (go_quiet (fail); try go_wp2)
                                  go_loopg [11] k5 (fun kq v11 w' => ∃ (x11_6 : Int), v11 = .int .i64 x11_6 ∧ Aside0 (marchlandref05_Check.l4 kq t305 x10_5 x11_6 a0_0 l0_1 l0_2 = some (r1, r2)) ∧ Aside0 (kq ≤ k5) ∧ Aside0 (Kd.S (Kd.slice 22 (Kd.int .u64)) 73 w' w.heap.size (fun _ => True) v306 t305) ∧ Aside0 (w'.heap[gb283]? = some (.cells #[.int .i64 a0_0, (.slice A0_1 l0_1.length c0_1), (.slice A0_2 l0_2.length c0_2)] 59 (0, 0))) ∧ Aside0 (Below w.heap.size w w'))
                                  case atStart => exact ⟨(0), (by first | rfl | (simp; done) | (simp [*]; done)), H', ⟨Nat.le_refl _⟩, ⟨by (with_reducible repeat (first | apply Kd.S_alloc | apply Kd.S_drewN | apply Kd.S_drew)); exact HO_9.out⟩, ⟨by (with_reducible repeat (first | refine blk_drewN ?_ _ | refine blk_drew ?_ | refine blk_alloc ?_ _)); exact BK283.out⟩, ⟨by repeat (first | (with_reducible first | exact HB.out | apply below_alloc | apply pw_below_drewN | apply below_drew1 | refine below_set ?_ GE283.out) | exact HB.out)⟩⟩
                                  case round =>
                                    clear H'
                                    try clear c1
                                    try clear c2
                                    try clear p2
                                    try clear q2
                                    try clear hx2
                                    try clear c3
                                    try clear p3
                                    try clear q3
                                    try clear hx3
                                    try clear c4
                                    try clear c4b0
                                    try clear c5
                                    try clear c6
                                    try clear p6
                                    try clear c7
                                    try clear c8
                                    try clear c8b0
                                    try clear c8b1
                                    try clear c11
                                    try clear c11b0
                                    try clear c12
                                    try clear c12b0
                                    try clear c15
                                    try clear c15b0
                                    try clear c17
                                    try clear c20
                                    try clear c20b0
                                    try clear c21
                                    try clear c21b0
                                    try clear c22
                                    try clear c22b0
                                    try clear c26
                                    try clear c26b0
                                    try clear p28
                                    try clear q28
                                    try clear hx28
                                    try clear p29
                                    try clear q29
                                    try clear hx29
                                    try clear p30
                                    try clear q30
                                    try clear hx30
                                    try clear c33
                                    try clear c33b0
                                    try clear c33b1
                                    try clear c36
                                    try clear c37
                                    try clear c37b0
                                    try clear c40
                                    try clear c40b0
                                    try clear c41
                                    try clear c41b0
                                    try clear c44
                                    try clear c47
                                    try clear c47b0
                                    try clear c48
                                    try clear c48b0
                                    try clear c49
                                    try clear c49b0
                                    try clear c50
                                    try clear c50b0
                                    try clear c51
                                    try clear c51b0
                                    try clear c52
                                    try clear c52b0
                                    try clear c52b1
                                    try clear c60
                                    try clear c60b0
                                    try clear hcz10_0
                                    try clear hcz10_1
                                    try clear hcz10_2
                                    try clear hcz14_0
                                    try clear hcz14_1
                                    try clear hcz14_2
                                    try clear hcz16_0
                                    try clear hcz16_1
                                    try clear hcz16_2
                                    try clear hcz23_0
                                    try clear hcz23_1
                                    try clear hcz23_2
                                    try clear hcz27_0
                                    try clear hcz27_1
                                    try clear hcz27_2
                                    try clear hcz30_0
                                    try clear hcz30_1
                                    try clear hcz30_2
                                    try clear hcz32_0
                                    try clear hcz32_1
                                    try clear hcz32_2
                                    try clear hcz34_0
                                    try clear hcz34_1
                                    try clear hcz34_2
                                    try clear hcz35_0
                                    try clear hcz35_1
                                    try clear hcz35_2
                                    try clear hcz39_0
                                    try clear hcz39_1
                                    try clear hcz39_2
                                    try clear hcz42_0
                                    try clear hcz42_1
                                    try clear hcz42_2
                                    try clear hcz43_0
                                    try clear hcz43_1
                                    try clear hcz43_2
                                    try clear hcz53_0
                                    try clear hcz53_1
                                    try clear hcz53_2
                                    try clear hcz56_0
                                    try clear hcz56_1
                                    try clear hcz56_2
                                    try clear hcz58_0
                                    try clear hcz58_1
                                    try clear hcz58_2
                                    try clear hcz5_0
                                    try clear hcz5_1
                                    try clear hcz5_2
                                    try clear hcz61_0
                                    try clear hcz61_1
                                    try clear hcz61_2
                                    try clear hcz6_0
                                    try clear hcz6_1
                                    try clear hcz6_2
                                    try clear hcz9_0
                                    try clear hcz9_1
                                    try clear hcz9_2
                                    try clear hfz10_0
                                    try clear hfz10_1
                                    try clear hfz10_2
                                    try clear hfz14_0
                                    try clear hfz14_1
                                    try clear hfz14_2
                                    try clear hfz16_0
                                    try clear hfz16_1
                                    try clear hfz16_2
                                    try clear hfz23_0
                                    try clear hfz23_1
                                    try clear hfz23_2
                                    try clear hfz27_0
                                    try clear hfz27_1
                                    try clear hfz27_2
                                    try clear hfz30_0
                                    try clear hfz30_1
                                    try clear hfz30_2
                                    try clear hfz32_0
                                    try clear hfz32_1
                                    try clear hfz32_2
                                    try clear hfz34_0
                                    try clear hfz34_1
                                    try clear hfz34_2
                                    try clear hfz35_0
                                    try clear hfz35_1
                                    try clear hfz35_2
                                    try clear hfz39_0
                                    try clear hfz39_1
                                    try clear hfz39_2
                                    try clear hfz42_0
                                    try clear hfz42_1
                                    try clear hfz42_2
                                    try clear hfz43_0
                                    try clear hfz43_1
                                    try clear hfz43_2
                                    try clear hfz53_0
                                    try clear hfz53_1
                                    try clear hfz53_2
                                    try clear hfz56_0
                                    try clear hfz56_1
                                    try clear hfz56_2
                                    try clear hfz58_0
                                    try clear hfz58_1
                                    try clear hfz58_2
                                    try clear hfz5_0
                                    try clear hfz5_1
                                    try clear hfz5_2
                                    try clear hfz61_0
                                    try clear hfz61_1
                                    try clear hfz61_2
                                    try clear hfz6_0
                                    try clear hfz6_1
                                    try clear hfz6_2
                                    try clear hfz9_0
                                    try clear hfz9_1
                                    try clear hfz9_2
                                    try clear hx284_0
                                    try clear hx284_1
                                    try clear hx284_2
                                    try clear hx288_0
                                    try clear hx288_1
                                    try clear hx288_2
                                    try clear hx295_0
                                    try clear hx296_0
                                    try clear hx300_0
                                    try clear hx301_0
                                    try clear p2
                                    try clear p28
                                    try clear p284
                                    try clear p288
                                    try clear p29
                                    try clear p295
                                    try clear p296
                                    try clear p3
                                    try clear p30
                                    try clear p300
                                    try clear p301
                                    try clear p6
                                    try clear q2
                                    try clear q28
                                    try clear q284
                                    try clear q288
                                    try clear q29
                                    try clear q295
                                    try clear q296
                                    try clear q3
                                    try clear q30
                                    try clear q300
                                    try clear q301
                                    obtain ⟨x11_6, rfl, HA, HK6, HO_9, BK283, HB⟩ := hrel
                                    cases gk with
                                    | zero => exact absurd HA.out (by simp [marchlandref05_Check.l4])
                                    | succ k6 =>
                                      have H := HA.out
                                      clear HA
                                      simp only [marchlandref05_Check.l4] at H
                                      by_cases c62 : x11_6 < (l0_1.length : Int)
                                      · rw [if_pos c62] at H
                                        have c62b0 : decide (x11_6 < (l0_1.length : Int)) = true := decide_eq_true c62
                                        clear c62
                                        by_cases c63 : 0 ≤ x11_6
                                        · rw [if_pos c63] at H
                                          have c63b0 : decide (0 ≤ x11_6) = true := decide_eq_true c63
                                          clear c63
                                          by_cases c64 : ((rd_T75 l0_1 x11_6).f0) = x10_5
                                          · rw [if_pos c64] at H
                                            have c64b0 : (((rd_T75 l0_1 x11_6).f0) == x10_5) = true := beq_iff_eq.mpr c64
                                            have c64b1 : (((rd_T75 l0_1 x11_6).f0) != x10_5) = false := bne_eq_false_iff_eq.mpr c64
                                            clear c64
                                            by_cases c65 : ((rd_T75 l0_1 x11_6).f2) = 0
                                            · rw [if_pos c65] at H
                                              have c65b0 : (((rd_T75 l0_1 x11_6).f2) == 0) = true := beq_iff_eq.mpr c65
                                              have c65b1 : (((rd_T75 l0_1 x11_6).f2) != 0) = false := bne_eq_false_iff_eq.mpr c65
                                              clear c65
                                              by_cases c66 : 0 ≤ ((rd_T75 l0_1 x11_6).f1)
                                              · rw [if_pos c66] at H
                                                have c66b0 : decide (0 ≤ ((rd_T75 l0_1 x11_6).f1)) = true := decide_eq_true c66
                                                clear c66
                                                by_cases c67 : ((rd_T75 l0_1 x11_6).f1) < (t305.length : Int)
                                                · rw [if_pos c67] at H
                                                  have c67b0 : decide (((rd_T75 l0_1 x11_6).f1) < (t305.length : Int)) = true := decide_eq_true c67
                                                  clear c67
                                                  by_cases c68 : 0 ≤ x10_5
                                                  · rw [if_pos c68] at H
                                                    have c68b0 : decide (0 ≤ x10_5) = true := decide_eq_true c68
                                                    clear c68
                                                    by_cases c69 : x10_5 < ((rd_L8 t305 ((rd_T75 l0_1 x11_6).f1)).length : Int)
                                                    · rw [if_pos c69] at H
                                                      have c69b0 : decide (x10_5 < ((rd_L8 t305 ((rd_T75 l0_1 x11_6).f1)).length : Int)) = true := decide_eq_true c69
                                                      clear c69
                                                      by_cases c70 : (rd (rd_L8 t305 ((rd_T75 l0_1 x11_6).f1)) x10_5) = 0
                                                      · rw [if_pos c70] at H
                                                        have c70b0 : ((rd (rd_L8 t305 ((rd_T75 l0_1 x11_6).f1)) x10_5) == 0) = true := beq_iff_eq.mpr c70
                                                        have c70b1 : ((rd (rd_L8 t305 ((rd_T75 l0_1 x11_6).f1)) x10_5) != 0) = false := bne_eq_false_iff_eq.mpr c70
                                                        clear c70
                                                        obtain ⟨y312, hy312⟩ : ∃ y_ : List (S42), y_ = (([(⟨(⟨#[112, 111, 114, 116]⟩ : ByteArray), x10_5⟩ : S42)] : List (S42))) := ⟨_, rfl⟩
                                                        replace H : (some (y312, 3)) = some (r1, r2) := by first | (rw [hy312]; with_reducible exact H) | (have H2_ := (Option.bind_some _ _).symm.trans H; rw [hy312]; with_reducible exact H2_) | (have H2_ := (Option.bind_some _ _).symm.trans H; with_reducible exact H2_) | with_reducible exact H | (rw [hy312]; exact H) | exact H
                                                        have Ny312 := Aside0.mk hy312
                                                        clear hy312
                                                        simp only [Option.some.injEq, Prod.mk.injEq] at H
                                                        obtain ⟨rfl, rfl⟩ := H
                                                        have hcz71_0 : wr.cell? ⟨gb283, 0, none⟩ = some (.int .i64 a0_0) := (blk_cell BK283.out 0).trans rfl
                                                        have hcz71_1 : wr.cell? ⟨gb283, 1, none⟩ = some (.slice A0_1 l0_1.length c0_1) := (blk_cell BK283.out 1).trans rfl
                                                        have hcz71_2 : wr.cell? ⟨gb283, 2, none⟩ = some (.slice A0_2 l0_2.length c0_2) := (blk_cell BK283.out 2).trans rfl
                                                        have hfz71_0 := blk_frozen BK283.out 0
                                                        have hfz71_1 := blk_frozen BK283.out 1
                                                        have hfz71_2 := blk_frozen BK283.out 2
                                                        have p308 : 0 ≤ (x11_6 : Int) := of_decide_eq_true (by first | (with_reducible assumption) | assumption)
                                                        have q308 : x11_6 < (l0_1.length : Int) := of_decide_eq_true (by first | (with_reducible assumption) | assumption)
                                                        obtain ⟨ad308, e308, hx308_0, hx308_1, hx308_2⟩ := at_T75 HR0_1.out x11_6 p308 q308
                                                        cases e308
                                                        replace hx308_0 := (HB.out.cell (World.block_lt_of_cell? w _ hx308_0)).trans hx308_0
                                                        replace hx308_1 := (HB.out.cell (World.block_lt_of_cell? w _ hx308_1)).trans hx308_1
                                                        replace hx308_2 := (HB.out.cell (World.block_lt_of_cell? w _ hx308_2)).trans hx308_2
                                                        replace p308 := eq_true p308
                                                        replace q308 := eq_true q308
                                                        go_wp2_with (first | ((with_reducible refine gate_dst (N := 12) rfl ?_); (try (refine gate_guard (by rfl) ?_; dsimp only)); refine box_event ?hg (N := 12) ?hd (cs := #[.int .i64 0, .int .i64 0, .int .u64 0]) (t := 75) ?hr ?_; (case hd => rfl); (case hg => rfl); (case hr => first | (go_simp; done) | (go_simp; rfl)); intro gb309 hg w72 hbox hb; have n0_ := Aside0.mk (Kd.S_below (by (with_reducible repeat (first | apply Kd.S_alloc | apply Kd.S_drewN | apply Kd.S_drew)); exact HO_9.out) hb); have n1_ := Aside0.mk (blk_below (g := gb283) (o := .cells #[.int .i64 a0_0, .slice (some ad308) l0_1.length c0_1, .slice A0_2 l0_2.length c0_2] 59 (0, 0)) (by (with_reducible repeat (first | refine blk_drewN ?_ _ | refine blk_drew ?_ | refine blk_alloc ?_ _)); exact BK283.out) hb); have n2_ := Aside0.mk (below_step (by repeat (first | (with_reducible first | exact HB.out | apply below_alloc | apply pw_below_drewN | apply below_drew1 | refine below_set ?_ GE283.out) | exact HB.out)) hb); have n3_ := Aside0.mk (hbox); have n4_ := Aside0.mk ((by rw [hg]; exact (below_size (by repeat (first | (with_reducible first | exact HB.out | apply below_alloc | apply pw_below_drewN | apply below_drew1 | refine below_set ?_ GE283.out) | exact HB.out))) : w.heap.size ≤ gb309)); have n5_ := Aside0.mk ((by rw [hg]; exact (below_size (by repeat (first | (with_reducible first | exact HB.out | apply below_alloc | apply pw_below_drewN | apply below_drew1 | refine below_set ?_ GE283.out) | exact HB.out))) : w.heap.size ≤ gb309)); have n6_ := Aside0.mk ((by rw [hg]; exact Nat.ne_of_lt (blk_lt (g := gb283) (o := .cells #[.int .i64 a0_0, .slice (some ad308) l0_1.length c0_1, .slice A0_2 l0_2.length c0_2] 59 (0, 0)) (by (with_reducible repeat (first | refine blk_drewN ?_ _ | refine blk_drew ?_ | refine blk_alloc ?_ _)); exact BK283.out)) : gb283 ≠ gb309)); have n7_ := Aside0.mk ((by rw [hg]; exact Nat.ne_of_gt (blk_lt (g := gb283) (o := .cells #[.int .i64 a0_0, .slice (some ad308) l0_1.length c0_1, .slice A0_2 l0_2.length c0_2] 59 (0, 0)) (by (with_reducible repeat (first | refine blk_drewN ?_ _ | refine blk_drew ?_ | refine blk_alloc ?_ _)); exact BK283.out)) : gb309 ≠ gb283)); clear HO_9; clear BK283; clear HB; have HO_9 := n0_; have BK283 := n1_; have HB := n2_; have BK309 := n3_; have GW309 := n4_; have GE309 := n5_; have NB283_309 := n6_; have NB309_283 := n7_; clear n0_ n1_ n2_ n3_ n4_ n5_ n6_ n7_; clear hb hbox hg; have hnb73 := NB309_283.out; have hnc73 := NB283_309.out; have hcz74_0 : w72.cell? ⟨gb309, 0, none⟩ = some (.int .i64 0) := (blk_cell BK309.out 0).trans rfl; have hcz74_1 : w72.cell? ⟨gb309, 1, none⟩ = some (.int .i64 0) := (blk_cell BK309.out 1).trans rfl; have hcz74_2 : w72.cell? ⟨gb309, 2, none⟩ = some (.int .u64 0) := (blk_cell BK309.out 2).trans rfl; have hfz74_0 := blk_frozen BK309.out 0; have hfz74_1 := blk_frozen BK309.out 1; have hfz74_2 := blk_frozen BK309.out 2) | ((with_reducible refine gate_store (t := 75) (p := 12) rfl ?_); (try (rw [drewN_self w72]; generalize hq_ : World.drewN w72 _ = w72; have n0_ := Aside0.mk (Kd.S_at hq_ HO_9.out); have n1_ := Aside0.mk (blk_at hq_ BK283.out); have n2_ := Aside0.mk (blk_at hq_ BK309.out); have n3_ := Aside0.mk (below_at hq_ HB.out); clear hq_ HO_9 BK283 BK309 HB; have HO_9 := n0_; have BK283 := n1_; have BK309 := n2_; have HB := n3_; clear n0_ n1_ n2_ n3_)); refine store_event (t := 75) (p := 12) (v := ?vo_w75) (w1 := (((w72.setCell ⟨gb309, 0, none⟩ (.int .i64 ((rd_T75 l0_1 x11_6).f0))).setCell ⟨gb309, 1, none⟩ (.int .i64 ((rd_T75 l0_1 x11_6).f1))).setCell ⟨gb309, 2, none⟩ (.int .u64 ((rd_T75 l0_1 x11_6).f2)))) ?hg ?ho ?hn ?hr ?_; (case ho => rfl); (case hg => rfl); (case hn => rfl); (case hr => first | (go_simp; done) | (go_simp; rfl)); intro w75 hw; have n0_ : Aside0 (Kd.S (Kd.slice 22 (Kd.int .u64)) 73 w75 w.heap.size (fun _ => True) v306 t305) := ⟨(by rw [hw]; exact (by (with_reducible repeat (first | apply Kd.S_alloc | apply Kd.S_drewN | apply Kd.S_drew)); exact Kd.S_mono (Kd.S_far (p := ⟨gb309, 2, none⟩) (Kd.S_far (p := ⟨gb309, 1, none⟩) (Kd.S_far (p := ⟨gb309, 0, none⟩) (Kd.S_types HO_9.out BK309.out (by decide)) (fun _ hk => hk.2) (.int .i64 ((rd_T75 l0_1 x11_6).f0))) (fun _ hk => hk.2) (.int .i64 ((rd_T75 l0_1 x11_6).f1))) (fun _ hk => hk.2) (.int .u64 ((rd_T75 l0_1 x11_6).f2))) (fun _ hk => trivial)))⟩; have n1_ : Aside0 (w75.heap[gb283]? = some (.cells #[.int .i64 a0_0, .slice (some ad308) l0_1.length c0_1, .slice A0_2 l0_2.length c0_2] 59 (0, 0))) := ⟨(by rw [hw]; exact (by (with_reducible repeat (first | refine blk_drewN ?_ _ | refine blk_drew ?_ | refine blk_alloc ?_ _)); refine blk_far ?_ NB283_309.out _; (with_reducible repeat (first | refine blk_drewN ?_ _ | refine blk_drew ?_ | refine blk_alloc ?_ _)); refine blk_far ?_ NB283_309.out _; (with_reducible repeat (first | refine blk_drewN ?_ _ | refine blk_drew ?_ | refine blk_alloc ?_ _)); refine blk_far ?_ NB283_309.out _; (with_reducible repeat (first | refine blk_drewN ?_ _ | refine blk_drew ?_ | refine blk_alloc ?_ _)); exact BK283.out))⟩; have n2_ : Aside0 (w75.heap[gb309]? = some (.cells #[.int .i64 ((rd_T75 l0_1 x11_6).f0), .int .i64 ((rd_T75 l0_1 x11_6).f1), .int .u64 ((rd_T75 l0_1 x11_6).f2)] 75 (0, 0))) := ⟨(by rw [hw]; exact (by (with_reducible repeat (first | refine blk_drewN ?_ _ | refine blk_drew ?_ | refine blk_alloc ?_ _)); refine blk_put (cs := #[.int .i64 ((rd_T75 l0_1 x11_6).f0), .int .i64 ((rd_T75 l0_1 x11_6).f1), .int .u64 0]) ?_ 2 _ rfl; (with_reducible repeat (first | refine blk_drewN ?_ _ | refine blk_drew ?_ | refine blk_alloc ?_ _)); refine blk_put (cs := #[.int .i64 ((rd_T75 l0_1 x11_6).f0), .int .i64 0, .int .u64 0]) ?_ 1 _ rfl; (with_reducible repeat (first | refine blk_drewN ?_ _ | refine blk_drew ?_ | refine blk_alloc ?_ _)); refine blk_put (cs := #[.int .i64 0, .int .i64 0, .int .u64 0]) ?_ 0 _ rfl; (with_reducible repeat (first | refine blk_drewN ?_ _ | refine blk_drew ?_ | refine blk_alloc ?_ _)); exact BK309.out))⟩; have n3_ : Aside0 (Below w.heap.size w w75) := ⟨(by rw [hw]; exact (by repeat (first | (with_reducible first | exact HB.out | apply below_alloc | apply pw_below_drewN | apply below_drew1 | refine below_set ?_ GE283.out | refine below_set ?_ GE309.out) | exact HB.out)))⟩; clear hw; clear HO_9; clear BK283; clear BK309; clear HB; have HO_9 := n0_; have BK283 := n1_; have BK309 := n2_; have HB := n3_; clear n0_ n1_ n2_ n3_; have hcz76_0 : w75.cell? ⟨gb309, 0, none⟩ = some (.int .i64 ((rd_T75 l0_1 x11_6).f0)) := (blk_cell BK309.out 0).trans rfl; have hcz76_1 : w75.cell? ⟨gb309, 1, none⟩ = some (.int .i64 ((rd_T75 l0_1 x11_6).f1)) := (blk_cell BK309.out 1).trans rfl; have hcz76_2 : w75.cell? ⟨gb309, 2, none⟩ = some (.int .u64 ((rd_T75 l0_1 x11_6).f2)) := (blk_cell BK309.out 2).trans rfl; have hfz76_0 := blk_frozen BK309.out 0; have hfz76_1 := blk_frozen BK309.out 1; have hfz76_2 := blk_frozen BK309.out 2; obtain ⟨Ao77, co77, eo77⟩ := Kd.S_slice HO_9.out; subst eo77; have p310 : 0 ≤ (((rd_T75 l0_1 x11_6).f1) : Int) := of_decide_eq_true (by first | (with_reducible assumption) | assumption); have q310 : ((rd_T75 l0_1 x11_6).f1) < (t305.length : Int) := of_decide_eq_true (by first | (with_reducible assumption) | assumption); obtain ⟨ad310, A310_0, c310_0, e310, hx310_0, hl310_0, hi310_0⟩ := at_L8 (Kd.S_reads' HO_9.out).2.2 ((rd_T75 l0_1 x11_6).f1) p310 q310; cases e310; obtain ⟨ce310, hce310, hMe310, hcc310⟩ := Kd.S_get HO_9.out [] ((rd_T75 l0_1 x11_6).f1) p310 (by first | exact q310 | exact of_decide_eq_true (by first | (with_reducible assumption) | assumption) | (have e_ := (Kd.S_reads' HO_9.out).1; omega)); obtain ⟨ve310_0, rfl, ge310_0⟩ := hMe310; have hv310_0 := hcc310 0 _ rfl; rw [Nat.add_zero, show ((Kd.slice 22 (Kd.int .u64))).sz = 1 from rfl, Nat.mul_one] at hv310_0; replace hv310_0 := Option.some.inj (hv310_0.symm.trans hx310_0); rw [hv310_0] at ge310_0; have HL310_0 := Aside0.mk (show Kd.R (Kd.int .u64) 22 _ _ _ _ (rd_L8 t305 ((rd_T75 l0_1 x11_6).f1)) from ge310_0); clear hv310_0 ge310_0; clear hcc310 hce310; have HR310_0 := Aside0.mk hi310_0; have HC310_0 := Aside0.mk hl310_0; clear hi310_0 hl310_0; replace p310 := eq_true p310; replace q310 := eq_true q310; have p311 : 0 ≤ (x10_5 : Int) := of_decide_eq_true (by first | (with_reducible assumption) | assumption); have q311 : x10_5 < ((rd_L8 t305 ((rd_T75 l0_1 x11_6).f1)).length : Int) := of_decide_eq_true (by first | (with_reducible assumption) | assumption); obtain ⟨ad311, e311, hx311_0⟩ := Kd.at_int (by repeat (first | (with_reducible exact HR310_0.out) | (with_reducible refine Kd.C_alloc ?_ _) | (with_reducible refine Kd.C_drewN ?_ _) | (with_reducible refine Kd.C_drew ?_) | exact HR310_0.out)) x10_5 p311 q311; cases e311; replace p311 := eq_true p311; replace q311 := eq_true q311) | ((with_reducible refine gate_dst (N := 167) rfl ?_); (try (refine gate_guard (by rfl) ?_; dsimp only)); refine Kd.R_lit k42 _ 42 ?hg (N := 167) ?hd (xs := ([(⟨(⟨#[112, 111, 114, 116]⟩ : ByteArray), x10_5⟩ : S42)] : List (S42))) (inner := [.string (⟨#[112, 111, 114, 116]⟩ : ByteArray), .int .i64 x10_5]) (ok := fun _ => True) (okp := fun _ => True) ?hr ?hp (fun _ hk => hk) trivial (Below.refl _ _) (Nat.le_refl _) (by simp) ?_; (case hd => rfl); (case hg => rfl); (case hr => first | (go_simp; done) | (go_simp; rfl)); (case hp => exact (Reps.c2 (show Kd.M k42 _ _ _ (⟨(⟨#[112, 111, 114, 116]⟩ : ByteArray), x10_5⟩ : S42) [.string (⟨#[112, 111, 114, 116]⟩ : ByteArray), .int .i64 x10_5] from (k42_mkM _ _ _ (⟨(⟨#[112, 111, 114, 116]⟩ : ByteArray), x10_5⟩ : S42) )) (Reps.none _ _))); intro v313 w78 ho79 hb hg_ hnew_; clear hg_ hnew_; (first | rw [← Ny312.out] at ho79 | (simp only [Int.reduceToNat] at ho79; rw [← Ny312.out] at ho79)); have n0_ := Aside0.mk (Kd.S_below (by (with_reducible repeat (first | apply Kd.S_alloc | apply Kd.S_drewN | apply Kd.S_drew)); exact HO_9.out) hb); have n1_ := Aside0.mk (Kd.R_below (by (with_reducible repeat (first | apply Kd.R_alloc | apply Kd.R_drewN | apply Kd.R_drew)); exact HL310_0.out) hb); have n2_ := Aside0.mk (Kd.R_lower ho79 (below_size (by repeat (first | (with_reducible first | exact HB.out | apply below_alloc | apply pw_below_drewN | apply below_drew1 | refine below_set ?_ GE283.out | refine below_set ?_ GE309.out) | exact HB.out)))); have n3_ := Aside0.mk (blk_below (g := gb283) (o := .cells #[.int .i64 a0_0, .slice (some ad308) l0_1.length c0_1, .slice A0_2 l0_2.length c0_2] 59 (0, 0)) (by (with_reducible repeat (first | refine blk_drewN ?_ _ | refine blk_drew ?_ | refine blk_alloc ?_ _)); exact BK283.out) hb); have n4_ := Aside0.mk (blk_below (g := gb309) (o := .cells #[.int .i64 ((rd_T75 l0_1 x11_6).f0), .int .i64 ((rd_T75 l0_1 x11_6).f1), .int .u64 ((rd_T75 l0_1 x11_6).f2)] 75 (0, 0)) (by (with_reducible repeat (first | refine blk_drewN ?_ _ | refine blk_drew ?_ | refine blk_alloc ?_ _)); exact BK309.out) hb); have n5_ := Aside0.mk (Kd.C_below (by repeat (first | (with_reducible exact HR310_0.out) | (with_reducible refine Kd.C_alloc ?_ _) | (with_reducible refine Kd.C_drewN ?_ _) | (with_reducible refine Kd.C_drew ?_) | exact HR310_0.out)) hb); have n6_ := Aside0.mk (below_step (by repeat (first | (with_reducible first | exact HB.out | apply below_alloc | apply pw_below_drewN | apply below_drew1 | refine below_set ?_ GE283.out | refine below_set ?_ GE309.out) | exact HB.out)) hb); clear HO_9; clear HL310_0; clear BK283; clear BK309; clear HR310_0; clear HB; have HO_9 := n0_; have HL310_0 := n1_; have HO314 := n2_; have BK283 := n3_; have BK309 := n4_; have HR310_0 := n5_; have HB := n6_; clear n0_ n1_ n2_ n3_ n4_ n5_ n6_; clear hb ho79))
                                                        repeat (go_quiet (first | ((with_reducible refine gate_dst (N := 12) rfl ?_); (try (refine gate_guard (by rfl) ?_; dsimp only)); refine box_event ?hg (N := 12) ?hd (cs := #[.int .i64 0, .int .i64 0, .int .u64 0]) (t := 75) ?hr ?_; (case hd => rfl); (case hg => rfl); (case hr => first | (go_simp; done) | (go_simp; rfl)); intro gb309 hg w72 hbox hb; have n0_ := Aside0.mk (Kd.S_below (by (with_reducible repeat (first | apply Kd.S_alloc | apply Kd.S_drewN | apply Kd.S_drew)); exact HO_9.out) hb); have n1_ := Aside0.mk (blk_below (g := gb283) (o := .cells #[.int .i64 a0_0, .slice (some ad308) l0_1.length c0_1, .slice A0_2 l0_2.length c0_2] 59 (0, 0)) (by (with_reducible repeat (first | refine blk_drewN ?_ _ | refine blk_drew ?_ | refine blk_alloc ?_ _)); exact BK283.out) hb); have n2_ := Aside0.mk (below_step (by repeat (first | (with_reducible first | exact HB.out | apply below_alloc | apply pw_below_drewN | apply below_drew1 | refine below_set ?_ GE283.out) | exact HB.out)) hb); have n3_ := Aside0.mk (hbox); have n4_ := Aside0.mk ((by rw [hg]; exact (below_size (by repeat (first | (with_reducible first | exact HB.out | apply below_alloc | apply pw_below_drewN | apply below_drew1 | refine below_set ?_ GE283.out) | exact HB.out))) : w.heap.size ≤ gb309)); have n5_ := Aside0.mk ((by rw [hg]; exact (below_size (by repeat (first | (with_reducible first | exact HB.out | apply below_alloc | apply pw_below_drewN | apply below_drew1 | refine below_set ?_ GE283.out) | exact HB.out))) : w.heap.size ≤ gb309)); have n6_ := Aside0.mk ((by rw [hg]; exact Nat.ne_of_lt (blk_lt (g := gb283) (o := .cells #[.int .i64 a0_0, .slice (some ad308) l0_1.length c0_1, .slice A0_2 l0_2.length c0_2] 59 (0, 0)) (by (with_reducible repeat (first | refine blk_drewN ?_ _ | refine blk_drew ?_ | refine blk_alloc ?_ _)); exact BK283.out)) : gb283 ≠ gb309)); have n7_ := Aside0.mk ((by rw [hg]; exact Nat.ne_of_gt (blk_lt (g := gb283) (o := .cells #[.int .i64 a0_0, .slice (some ad308) l0_1.length c0_1, .slice A0_2 l0_2.length c0_2] 59 (0, 0)) (by (with_reducible repeat (first | refine blk_drewN ?_ _ | refine blk_drew ?_ | refine blk_alloc ?_ _)); exact BK283.out)) : gb309 ≠ gb283)); clear HO_9; clear BK283; clear HB; have HO_9 := n0_; have BK283 := n1_; have HB := n2_; have BK309 := n3_; have GW309 := n4_; have GE309 := n5_; have NB283_309 := n6_; have NB309_283 := n7_; clear n0_ n1_ n2_ n3_ n4_ n5_ n6_ n7_; clear hb hbox hg; have hnb73 := NB309_283.out; have hnc73 := NB283_309.out; have hcz74_0 : w72.cell? ⟨gb309, 0, none⟩ = some (.int .i64 0) := (blk_cell BK309.out 0).trans rfl; have hcz74_1 : w72.cell? ⟨gb309, 1, none⟩ = some (.int .i64 0) := (blk_cell BK309.out 1).trans rfl; have hcz74_2 : w72.cell? ⟨gb309, 2, none⟩ = some (.int .u64 0) := (blk_cell BK309.out 2).trans rfl; have hfz74_0 := blk_frozen BK309.out 0; have hfz74_1 := blk_frozen BK309.out 1; have hfz74_2 := blk_frozen BK309.out 2) | ((with_reducible refine gate_store (t := 75) (p := 12) rfl ?_); (try (rw [drewN_self w72]; generalize hq_ : World.drewN w72 _ = w72; have n0_ := Aside0.mk (Kd.S_at hq_ HO_9.out); have n1_ := Aside0.mk (blk_at hq_ BK283.out); have n2_ := Aside0.mk (blk_at hq_ BK309.out); have n3_ := Aside0.mk (below_at hq_ HB.out); clear hq_ HO_9 BK283 BK309 HB; have HO_9 := n0_; have BK283 := n1_; have BK309 := n2_; have HB := n3_; clear n0_ n1_ n2_ n3_)); refine store_event (t := 75) (p := 12) (v := ?vo_w75) (w1 := (((w72.setCell ⟨gb309, 0, none⟩ (.int .i64 ((rd_T75 l0_1 x11_6).f0))).setCell ⟨gb309, 1, none⟩ (.int .i64 ((rd_T75 l0_1 x11_6).f1))).setCell ⟨gb309, 2, none⟩ (.int .u64 ((rd_T75 l0_1 x11_6).f2)))) ?hg ?ho ?hn ?hr ?_; (case ho => rfl); (case hg => rfl); (case hn => rfl); (case hr => first | (go_simp; done) | (go_simp; rfl)); intro w75 hw; have n0_ : Aside0 (Kd.S (Kd.slice 22 (Kd.int .u64)) 73 w75 w.heap.size (fun _ => True) v306 t305) := ⟨(by rw [hw]; exact (by (with_reducible repeat (first | apply Kd.S_alloc | apply Kd.S_drewN | apply Kd.S_drew)); exact Kd.S_mono (Kd.S_far (p := ⟨gb309, 2, none⟩) (Kd.S_far (p := ⟨gb309, 1, none⟩) (Kd.S_far (p := ⟨gb309, 0, none⟩) (Kd.S_types HO_9.out BK309.out (by decide)) (fun _ hk => hk.2) (.int .i64 ((rd_T75 l0_1 x11_6).f0))) (fun _ hk => hk.2) (.int .i64 ((rd_T75 l0_1 x11_6).f1))) (fun _ hk => hk.2) (.int .u64 ((rd_T75 l0_1 x11_6).f2))) (fun _ hk => trivial)))⟩; have n1_ : Aside0 (w75.heap[gb283]? = some (.cells #[.int .i64 a0_0, .slice (some ad308) l0_1.length c0_1, .slice A0_2 l0_2.length c0_2] 59 (0, 0))) := ⟨(by rw [hw]; exact (by (with_reducible repeat (first | refine blk_drewN ?_ _ | refine blk_drew ?_ | refine blk_alloc ?_ _)); refine blk_far ?_ NB283_309.out _; (with_reducible repeat (first | refine blk_drewN ?_ _ | refine blk_drew ?_ | refine blk_alloc ?_ _)); refine blk_far ?_ NB283_309.out _; (with_reducible repeat (first | refine blk_drewN ?_ _ | refine blk_drew ?_ | refine blk_alloc ?_ _)); refine blk_far ?_ NB283_309.out _; (with_reducible repeat (first | refine blk_drewN ?_ _ | refine blk_drew ?_ | refine blk_alloc ?_ _)); exact BK283.out))⟩; have n2_ : Aside0 (w75.heap[gb309]? = some (.cells #[.int .i64 ((rd_T75 l0_1 x11_6).f0), .int .i64 ((rd_T75 l0_1 x11_6).f1), .int .u64 ((rd_T75 l0_1 x11_6).f2)] 75 (0, 0))) := ⟨(by rw [hw]; exact (by (with_reducible repeat (first | refine blk_drewN ?_ _ | refine blk_drew ?_ | refine blk_alloc ?_ _)); refine blk_put (cs := #[.int .i64 ((rd_T75 l0_1 x11_6).f0), .int .i64 ((rd_T75 l0_1 x11_6).f1), .int .u64 0]) ?_ 2 _ rfl; (with_reducible repeat (first | refine blk_drewN ?_ _ | refine blk_drew ?_ | refine blk_alloc ?_ _)); refine blk_put (cs := #[.int .i64 ((rd_T75 l0_1 x11_6).f0), .int .i64 0, .int .u64 0]) ?_ 1 _ rfl; (with_reducible repeat (first | refine blk_drewN ?_ _ | refine blk_drew ?_ | refine blk_alloc ?_ _)); refine blk_put (cs := #[.int .i64 0, .int .i64 0, .int .u64 0]) ?_ 0 _ rfl; (with_reducible repeat (first | refine blk_drewN ?_ _ | refine blk_drew ?_ | refine blk_alloc ?_ _)); exact BK309.out))⟩; have n3_ : Aside0 (Below w.heap.size w w75) := ⟨(by rw [hw]; exact (by repeat (first | (with_reducible first | exact HB.out | apply below_alloc | apply pw_below_drewN | apply below_drew1 | refine below_set ?_ GE283.out | refine below_set ?_ GE309.out) | exact HB.out)))⟩; clear hw; clear HO_9; clear BK283; clear BK309; clear HB; have HO_9 := n0_; have BK283 := n1_; have BK309 := n2_; have HB := n3_; clear n0_ n1_ n2_ n3_; have hcz76_0 : w75.cell? ⟨gb309, 0, none⟩ = some (.int .i64 ((rd_T75 l0_1 x11_6).f0)) := (blk_cell BK309.out 0).trans rfl; have hcz76_1 : w75.cell? ⟨gb309, 1, none⟩ = some (.int .i64 ((rd_T75 l0_1 x11_6).f1)) := (blk_cell BK309.out 1).trans rfl; have hcz76_2 : w75.cell? ⟨gb309, 2, none⟩ = some (.int .u64 ((rd_T75 l0_1 x11_6).f2)) := (blk_cell BK309.out 2).trans rfl; have hfz76_0 := blk_frozen BK309.out 0; have hfz76_1 := blk_frozen BK309.out 1; have hfz76_2 := blk_frozen BK309.out 2; obtain ⟨Ao77, co77, eo77⟩ := Kd.S_slice HO_9.out; subst eo77; have p310 : 0 ≤ (((rd_T75 l0_1 x11_6).f1) : Int) := of_decide_eq_true (by first | (with_reducible assumption) | assumption); have q310 : ((rd_T75 l0_1 x11_6).f1) < (t305.length : Int) := of_decide_eq_true (by first | (with_reducible assumption) | assumption); obtain ⟨ad310, A310_0, c310_0, e310, hx310_0, hl310_0, hi310_0⟩ := at_L8 (Kd.S_reads' HO_9.out).2.2 ((rd_T75 l0_1 x11_6).f1) p310 q310; cases e310; obtain ⟨ce310, hce310, hMe310, hcc310⟩ := Kd.S_get HO_9.out [] ((rd_T75 l0_1 x11_6).f1) p310 (by first | exact q310 | exact of_decide_eq_true (by first | (with_reducible assumption) | assumption) | (have e_ := (Kd.S_reads' HO_9.out).1; omega)); obtain ⟨ve310_0, rfl, ge310_0⟩ := hMe310; have hv310_0 := hcc310 0 _ rfl; rw [Nat.add_zero, show ((Kd.slice 22 (Kd.int .u64))).sz = 1 from rfl, Nat.mul_one] at hv310_0; replace hv310_0 := Option.some.inj (hv310_0.symm.trans hx310_0); rw [hv310_0] at ge310_0; have HL310_0 := Aside0.mk (show Kd.R (Kd.int .u64) 22 _ _ _ _ (rd_L8 t305 ((rd_T75 l0_1 x11_6).f1)) from ge310_0); clear hv310_0 ge310_0; clear hcc310 hce310; have HR310_0 := Aside0.mk hi310_0; have HC310_0 := Aside0.mk hl310_0; clear hi310_0 hl310_0; replace p310 := eq_true p310; replace q310 := eq_true q310; have p311 : 0 ≤ (x10_5 : Int) := of_decide_eq_true (by first | (with_reducible assumption) | assumption); have q311 : x10_5 < ((rd_L8 t305 ((rd_T75 l0_1 x11_6).f1)).length : Int) := of_decide_eq_true (by first | (with_reducible assumption) | assumption); obtain ⟨ad311, e311, hx311_0⟩ := Kd.at_int (by repeat (first | (with_reducible exact HR310_0.out) | (with_reducible refine Kd.C_alloc ?_ _) | (with_reducible refine Kd.C_drewN ?_ _) | (with_reducible refine Kd.C_drew ?_) | exact HR310_0.out)) x10_5 p311 q311; cases e311; replace p311 := eq_true p311; replace q311 := eq_true q311) | ((with_reducible refine gate_dst (N := 167) rfl ?_); (try (refine gate_guard (by rfl) ?_; dsimp only)); refine Kd.R_lit k42 _ 42 ?hg (N := 167) ?hd (xs := ([(⟨(⟨#[112, 111, 114, 116]⟩ : ByteArray), x10_5⟩ : S42)] : List (S42))) (inner := [.string (⟨#[112, 111, 114, 116]⟩ : ByteArray), .int .i64 x10_5]) (ok := fun _ => True) (okp := fun _ => True) ?hr ?hp (fun _ hk => hk) trivial (Below.refl _ _) (Nat.le_refl _) (by simp) ?_; (case hd => rfl); (case hg => rfl); (case hr => first | (go_simp; done) | (go_simp; rfl)); (case hp => exact (Reps.c2 (show Kd.M k42 _ _ _ (⟨(⟨#[112, 111, 114, 116]⟩ : ByteArray), x10_5⟩ : S42) [.string (⟨#[112, 111, 114, 116]⟩ : ByteArray), .int .i64 x10_5] from (k42_mkM _ _ _ (⟨(⟨#[112, 111, 114, 116]⟩ : ByteArray), x10_5⟩ : S42) )) (Reps.none _ _))); intro v313 w78 ho79 hb hg_ hnew_; clear hg_ hnew_; (first | rw [← Ny312.out] at ho79 | (simp only [Int.reduceToNat] at ho79; rw [← Ny312.out] at ho79)); have n0_ := Aside0.mk (Kd.S_below (by (with_reducible repeat (first | apply Kd.S_alloc | apply Kd.S_drewN | apply Kd.S_drew)); exact HO_9.out) hb); have n1_ := Aside0.mk (Kd.R_below (by (with_reducible repeat (first | apply Kd.R_alloc | apply Kd.R_drewN | apply Kd.R_drew)); exact HL310_0.out) hb); have n2_ := Aside0.mk (Kd.R_lower ho79 (below_size (by repeat (first | (with_reducible first | exact HB.out | apply below_alloc | apply pw_below_drewN | apply below_drew1 | refine below_set ?_ GE283.out | refine below_set ?_ GE309.out) | exact HB.out)))); have n3_ := Aside0.mk (blk_below (g := gb283) (o := .cells #[.int .i64 a0_0, .slice (some ad308) l0_1.length c0_1, .slice A0_2 l0_2.length c0_2] 59 (0, 0)) (by (with_reducible repeat (first | refine blk_drewN ?_ _ | refine blk_drew ?_ | refine blk_alloc ?_ _)); exact BK283.out) hb); have n4_ := Aside0.mk (blk_below (g := gb309) (o := .cells #[.int .i64 ((rd_T75 l0_1 x11_6).f0), .int .i64 ((rd_T75 l0_1 x11_6).f1), .int .u64 ((rd_T75 l0_1 x11_6).f2)] 75 (0, 0)) (by (with_reducible repeat (first | refine blk_drewN ?_ _ | refine blk_drew ?_ | refine blk_alloc ?_ _)); exact BK309.out) hb); have n5_ := Aside0.mk (Kd.C_below (by repeat (first | (with_reducible exact HR310_0.out) | (with_reducible refine Kd.C_alloc ?_ _) | (with_reducible refine Kd.C_drewN ?_ _) | (with_reducible refine Kd.C_drew ?_) | exact HR310_0.out)) hb); have n6_ := Aside0.mk (below_step (by repeat (first | (with_reducible first | exact HB.out | apply below_alloc | apply pw_below_drewN | apply below_drew1 | refine below_set ?_ GE283.out | refine below_set ?_ GE309.out) | exact HB.out)) hb); clear HO_9; clear HL310_0; clear BK283; clear BK309; clear HR310_0; clear HB; have HO_9 := n0_; have HL310_0 := n1_; have HO314 := n2_; have BK283 := n3_; have BK309 := n4_; have HR310_0 := n5_; have HB := n6_; clear n0_ n1_ n2_ n3_ n4_ n5_ n6_; clear hb ho79)); try go_wp2_with (first | ((with_reducible refine gate_dst (N := 12) rfl ?_); (try (refine gate_guard (by rfl) ?_; dsimp only)); refine box_event ?hg (N := 12) ?hd (cs := #[.int .i64 0, .int .i64 0, .int .u64 0]) (t := 75) ?hr ?_; (case hd => rfl); (case hg => rfl); (case hr => first | (go_simp; done) | (go_simp; rfl)); intro gb309 hg w72 hbox hb; have n0_ := Aside0.mk (Kd.S_below (by (with_reducible repeat (first | apply Kd.S_alloc | apply Kd.S_drewN | apply Kd.S_drew)); exact HO_9.out) hb); have n1_ := Aside0.mk (blk_below (g := gb283) (o := .cells #[.int .i64 a0_0, .slice (some ad308) l0_1.length c0_1, .slice A0_2 l0_2.length c0_2] 59 (0, 0)) (by (with_reducible repeat (first | refine blk_drewN ?_ _ | refine blk_drew ?_ | refine blk_alloc ?_ _)); exact BK283.out) hb); have n2_ := Aside0.mk (below_step (by repeat (first | (with_reducible first | exact HB.out | apply below_alloc | apply pw_below_drewN | apply below_drew1 | refine below_set ?_ GE283.out) | exact HB.out)) hb); have n3_ := Aside0.mk (hbox); have n4_ := Aside0.mk ((by rw [hg]; exact (below_size (by repeat (first | (with_reducible first | exact HB.out | apply below_alloc | apply pw_below_drewN | apply below_drew1 | refine below_set ?_ GE283.out) | exact HB.out))) : w.heap.size ≤ gb309)); have n5_ := Aside0.mk ((by rw [hg]; exact (below_size (by repeat (first | (with_reducible first | exact HB.out | apply below_alloc | apply pw_below_drewN | apply below_drew1 | refine below_set ?_ GE283.out) | exact HB.out))) : w.heap.size ≤ gb309)); have n6_ := Aside0.mk ((by rw [hg]; exact Nat.ne_of_lt (blk_lt (g := gb283) (o := .cells #[.int .i64 a0_0, .slice (some ad308) l0_1.length c0_1, .slice A0_2 l0_2.length c0_2] 59 (0, 0)) (by (with_reducible repeat (first | refine blk_drewN ?_ _ | refine blk_drew ?_ | refine blk_alloc ?_ _)); exact BK283.out)) : gb283 ≠ gb309)); have n7_ := Aside0.mk ((by rw [hg]; exact Nat.ne_of_gt (blk_lt (g := gb283) (o := .cells #[.int .i64 a0_0, .slice (some ad308) l0_1.length c0_1, .slice A0_2 l0_2.length c0_2] 59 (0, 0)) (by (with_reducible repeat (first | refine blk_drewN ?_ _ | refine blk_drew ?_ | refine blk_alloc ?_ _)); exact BK283.out)) : gb309 ≠ gb283)); clear HO_9; clear BK283; clear HB; have HO_9 := n0_; have BK283 := n1_; have HB := n2_; have BK309 := n3_; have GW309 := n4_; have GE309 := n5_; have NB283_309 := n6_; have NB309_283 := n7_; clear n0_ n1_ n2_ n3_ n4_ n5_ n6_ n7_; clear hb hbox hg; have hnb73 := NB309_283.out; have hnc73 := NB283_309.out; have hcz74_0 : w72.cell? ⟨gb309, 0, none⟩ = some (.int .i64 0) := (blk_cell BK309.out 0).trans rfl; have hcz74_1 : w72.cell? ⟨gb309, 1, none⟩ = some (.int .i64 0) := (blk_cell BK309.out 1).trans rfl; have hcz74_2 : w72.cell? ⟨gb309, 2, none⟩ = some (.int .u64 0) := (blk_cell BK309.out 2).trans rfl; have hfz74_0 := blk_frozen BK309.out 0; have hfz74_1 := blk_frozen BK309.out 1; have hfz74_2 := blk_frozen BK309.out 2) | ((with_reducible refine gate_store (t := 75) (p := 12) rfl ?_); (try (rw [drewN_self w72]; generalize hq_ : World.drewN w72 _ = w72; have n0_ := Aside0.mk (Kd.S_at hq_ HO_9.out); have n1_ := Aside0.mk (blk_at hq_ BK283.out); have n2_ := Aside0.mk (blk_at hq_ BK309.out); have n3_ := Aside0.mk (below_at hq_ HB.out); clear hq_ HO_9 BK283 BK309 HB; have HO_9 := n0_; have BK283 := n1_; have BK309 := n2_; have HB := n3_; clear n0_ n1_ n2_ n3_)); refine store_event (t := 75) (p := 12) (v := ?vo_w75) (w1 := (((w72.setCell ⟨gb309, 0, none⟩ (.int .i64 ((rd_T75 l0_1 x11_6).f0))).setCell ⟨gb309, 1, none⟩ (.int .i64 ((rd_T75 l0_1 x11_6).f1))).setCell ⟨gb309, 2, none⟩ (.int .u64 ((rd_T75 l0_1 x11_6).f2)))) ?hg ?ho ?hn ?hr ?_; (case ho => rfl); (case hg => rfl); (case hn => rfl); (case hr => first | (go_simp; done) | (go_simp; rfl)); intro w75 hw; have n0_ : Aside0 (Kd.S (Kd.slice 22 (Kd.int .u64)) 73 w75 w.heap.size (fun _ => True) v306 t305) := ⟨(by rw [hw]; exact (by (with_reducible repeat (first | apply Kd.S_alloc | apply Kd.S_drewN | apply Kd.S_drew)); exact Kd.S_mono (Kd.S_far (p := ⟨gb309, 2, none⟩) (Kd.S_far (p := ⟨gb309, 1, none⟩) (Kd.S_far (p := ⟨gb309, 0, none⟩) (Kd.S_types HO_9.out BK309.out (by decide)) (fun _ hk => hk.2) (.int .i64 ((rd_T75 l0_1 x11_6).f0))) (fun _ hk => hk.2) (.int .i64 ((rd_T75 l0_1 x11_6).f1))) (fun _ hk => hk.2) (.int .u64 ((rd_T75 l0_1 x11_6).f2))) (fun _ hk => trivial)))⟩; have n1_ : Aside0 (w75.heap[gb283]? = some (.cells #[.int .i64 a0_0, .slice (some ad308) l0_1.length c0_1, .slice A0_2 l0_2.length c0_2] 59 (0, 0))) := ⟨(by rw [hw]; exact (by (with_reducible repeat (first | refine blk_drewN ?_ _ | refine blk_drew ?_ | refine blk_alloc ?_ _)); refine blk_far ?_ NB283_309.out _; (with_reducible repeat (first | refine blk_drewN ?_ _ | refine blk_drew ?_ | refine blk_alloc ?_ _)); refine blk_far ?_ NB283_309.out _; (with_reducible repeat (first | refine blk_drewN ?_ _ | refine blk_drew ?_ | refine blk_alloc ?_ _)); refine blk_far ?_ NB283_309.out _; (with_reducible repeat (first | refine blk_drewN ?_ _ | refine blk_drew ?_ | refine blk_alloc ?_ _)); exact BK283.out))⟩; have n2_ : Aside0 (w75.heap[gb309]? = some (.cells #[.int .i64 ((rd_T75 l0_1 x11_6).f0), .int .i64 ((rd_T75 l0_1 x11_6).f1), .int .u64 ((rd_T75 l0_1 x11_6).f2)] 75 (0, 0))) := ⟨(by rw [hw]; exact (by (with_reducible repeat (first | refine blk_drewN ?_ _ | refine blk_drew ?_ | refine blk_alloc ?_ _)); refine blk_put (cs := #[.int .i64 ((rd_T75 l0_1 x11_6).f0), .int .i64 ((rd_T75 l0_1 x11_6).f1), .int .u64 0]) ?_ 2 _ rfl; (with_reducible repeat (first | refine blk_drewN ?_ _ | refine blk_drew ?_ | refine blk_alloc ?_ _)); refine blk_put (cs := #[.int .i64 ((rd_T75 l0_1 x11_6).f0), .int .i64 0, .int .u64 0]) ?_ 1 _ rfl; (with_reducible repeat (first | refine blk_drewN ?_ _ | refine blk_drew ?_ | refine blk_alloc ?_ _)); refine blk_put (cs := #[.int .i64 0, .int .i64 0, .int .u64 0]) ?_ 0 _ rfl; (with_reducible repeat (first | refine blk_drewN ?_ _ | refine blk_drew ?_ | refine blk_alloc ?_ _)); exact BK309.out))⟩; have n3_ : Aside0 (Below w.heap.size w w75) := ⟨(by rw [hw]; exact (by repeat (first | (with_reducible first | exact HB.out | apply below_alloc | apply pw_below_drewN | apply below_drew1 | refine below_set ?_ GE283.out | refine below_set ?_ GE309.out) | exact HB.out)))⟩; clear hw; clear HO_9; clear BK283; clear BK309; clear HB; have HO_9 := n0_; have BK283 := n1_; have BK309 := n2_; have HB := n3_; clear n0_ n1_ n2_ n3_; have hcz76_0 : w75.cell? ⟨gb309, 0, none⟩ = some (.int .i64 ((rd_T75 l0_1 x11_6).f0)) := (blk_cell BK309.out 0).trans rfl; have hcz76_1 : w75.cell? ⟨gb309, 1, none⟩ = some (.int .i64 ((rd_T75 l0_1 x11_6).f1)) := (blk_cell BK309.out 1).trans rfl; have hcz76_2 : w75.cell? ⟨gb309, 2, none⟩ = some (.int .u64 ((rd_T75 l0_1 x11_6).f2)) := (blk_cell BK309.out 2).trans rfl; have hfz76_0 := blk_frozen BK309.out 0; have hfz76_1 := blk_frozen BK309.out 1; have hfz76_2 := blk_frozen BK309.out 2; obtain ⟨Ao77, co77, eo77⟩ := Kd.S_slice HO_9.out; subst eo77; have p310 : 0 ≤ (((rd_T75 l0_1 x11_6).f1) : Int) := of_decide_eq_true (by first | (with_reducible assumption) | assumption); have q310 : ((rd_T75 l0_1 x11_6).f1) < (t305.length : Int) := of_decide_eq_true (by first | (with_reducible assumption) | assumption); obtain ⟨ad310, A310_0, c310_0, e310, hx310_0, hl310_0, hi310_0⟩ := at_L8 (Kd.S_reads' HO_9.out).2.2 ((rd_T75 l0_1 x11_6).f1) p310 q310; cases e310; obtain ⟨ce310, hce310, hMe310, hcc310⟩ := Kd.S_get HO_9.out [] ((rd_T75 l0_1 x11_6).f1) p310 (by first | exact q310 | exact of_decide_eq_true (by first | (with_reducible assumption) | assumption) | (have e_ := (Kd.S_reads' HO_9.out).1; omega)); obtain ⟨ve310_0, rfl, ge310_0⟩ := hMe310; have hv310_0 := hcc310 0 _ rfl; rw [Nat.add_zero, show ((Kd.slice 22 (Kd.int .u64))).sz = 1 from rfl, Nat.mul_one] at hv310_0; replace hv310_0 := Option.some.inj (hv310_0.symm.trans hx310_0); rw [hv310_0] at ge310_0; have HL310_0 := Aside0.mk (show Kd.R (Kd.int .u64) 22 _ _ _ _ (rd_L8 t305 ((rd_T75 l0_1 x11_6).f1)) from ge310_0); clear hv310_0 ge310_0; clear hcc310 hce310; have HR310_0 := Aside0.mk hi310_0; have HC310_0 := Aside0.mk hl310_0; clear hi310_0 hl310_0; replace p310 := eq_true p310; replace q310 := eq_true q310; have p311 : 0 ≤ (x10_5 : Int) := of_decide_eq_true (by first | (with_reducible assumption) | assumption); have q311 : x10_5 < ((rd_L8 t305 ((rd_T75 l0_1 x11_6).f1)).length : Int) := of_decide_eq_true (by first | (with_reducible assumption) | assumption); obtain ⟨ad311, e311, hx311_0⟩ := Kd.at_int (by repeat (first | (with_reducible exact HR310_0.out) | (with_reducible refine Kd.C_alloc ?_ _) | (with_reducible refine Kd.C_drewN ?_ _) | (with_reducible refine Kd.C_drew ?_) | exact HR310_0.out)) x10_5 p311 q311; cases e311; replace p311 := eq_true p311; replace q311 := eq_true q311) | ((with_reducible refine gate_dst (N := 167) rfl ?_); (try (refine gate_guard (by rfl) ?_; dsimp only)); refine Kd.R_lit k42 _ 42 ?hg (N := 167) ?hd (xs := ([(⟨(⟨#[112, 111, 114, 116]⟩ : ByteArray), x10_5⟩ : S42)] : List (S42))) (inner := [.string (⟨#[112, 111, 114, 116]⟩ : ByteArray), .int .i64 x10_5]) (ok := fun _ => True) (okp := fun _ => True) ?hr ?hp (fun _ hk => hk) trivial (Below.refl _ _) (Nat.le_refl _) (by simp) ?_; (case hd => rfl); (case hg => rfl); (case hr => first | (go_simp; done) | (go_simp; rfl)); (case hp => exact (Reps.c2 (show Kd.M k42 _ _ _ (⟨(⟨#[112, 111, 114, 116]⟩ : ByteArray), x10_5⟩ : S42) [.string (⟨#[112, 111, 114, 116]⟩ : ByteArray), .int .i64 x10_5] from (k42_mkM _ _ _ (⟨(⟨#[112, 111, 114, 116]⟩ : ByteArray), x10_5⟩ : S42) )) (Reps.none _ _))); intro v313 w78 ho79 hb hg_ hnew_; clear hg_ hnew_; (first | rw [← Ny312.out] at ho79 | (simp only [Int.reduceToNat] at ho79; rw [← Ny312.out] at ho79)); have n0_ := Aside0.mk (Kd.S_below (by (with_reducible repeat (first | apply Kd.S_alloc | apply Kd.S_drewN | apply Kd.S_drew)); exact HO_9.out) hb); have n1_ := Aside0.mk (Kd.R_below (by (with_reducible repeat (first | apply Kd.R_alloc | apply Kd.R_drewN | apply Kd.R_drew)); exact HL310_0.out) hb); have n2_ := Aside0.mk (Kd.R_lower ho79 (below_size (by repeat (first | (with_reducible first | exact HB.out | apply below_alloc | apply pw_below_drewN | apply below_drew1 | refine below_set ?_ GE283.out | refine below_set ?_ GE309.out) | exact HB.out)))); have n3_ := Aside0.mk (blk_below (g := gb283) (o := .cells #[.int .i64 a0_0, .slice (some ad308) l0_1.length c0_1, .slice A0_2 l0_2.length c0_2] 59 (0, 0)) (by (with_reducible repeat (first | refine blk_drewN ?_ _ | refine blk_drew ?_ | refine blk_alloc ?_ _)); exact BK283.out) hb); have n4_ := Aside0.mk (blk_below (g := gb309) (o := .cells #[.int .i64 ((rd_T75 l0_1 x11_6).f0), .int .i64 ((rd_T75 l0_1 x11_6).f1), .int .u64 ((rd_T75 l0_1 x11_6).f2)] 75 (0, 0)) (by (with_reducible repeat (first | refine blk_drewN ?_ _ | refine blk_drew ?_ | refine blk_alloc ?_ _)); exact BK309.out) hb); have n5_ := Aside0.mk (Kd.C_below (by repeat (first | (with_reducible exact HR310_0.out) | (with_reducible refine Kd.C_alloc ?_ _) | (with_reducible refine Kd.C_drewN ?_ _) | (with_reducible refine Kd.C_drew ?_) | exact HR310_0.out)) hb); have n6_ := Aside0.mk (below_step (by repeat (first | (with_reducible first | exact HB.out | apply below_alloc | apply pw_below_drewN | apply below_drew1 | refine below_set ?_ GE283.out | refine below_set ?_ GE309.out) | exact HB.out)) hb); clear HO_9; clear HL310_0; clear BK283; clear BK309; clear HR310_0; clear HB; have HO_9 := n0_; have HL310_0 := n1_; have HO314 := n2_; have BK283 := n3_; have BK309 := n4_; have HR310_0 := n5_; have HB := n6_; clear n0_ n1_ n2_ n3_ n4_ n5_ n6_; clear hb ho79)))
                                                        go_ret2
                                                        exact ⟨_, by first | rfl | (simp [errW_none, errW_some] <;> rfl) | (simp [*, errW_none, errW_some] <;> rfl), by (with_reducible repeat (first | apply Kd.R_alloc | apply Kd.R_drewN | apply Kd.R_drew)); exact HO314.out, by repeat (first | (with_reducible first | exact HB.out | apply below_alloc | apply pw_below_drewN | apply below_drew1 | refine below_set ?_ GE283.out | refine below_set ?_ GE309.out) | exact HB.out)⟩
                                                      · rw [if_neg c70] at H
                                                        have c70b0 : ((rd (rd_L8 t305 ((rd_T75 l0_1 x11_6).f1)) x10_5) == 0) = false := beq_eq_false_iff_ne.mpr c70
                                                        have c70b1 : ((rd (rd_L8 t305 ((rd_T75 l0_1 x11_6).f1)) x10_5) != 0) = true := bne_iff_ne.mpr c70
                                                        have H' := Aside0.mk H
                                                        clear H
                                                        have hcz80_0 : wr.cell? ⟨gb283, 0, none⟩ = some (.int .i64 a0_0) := (blk_cell BK283.out 0).trans rfl
                                                        have hcz80_1 : wr.cell? ⟨gb283, 1, none⟩ = some (.slice A0_1 l0_1.length c0_1) := (blk_cell BK283.out 1).trans rfl
                                                        have hcz80_2 : wr.cell? ⟨gb283, 2, none⟩ = some (.slice A0_2 l0_2.length c0_2) := (blk_cell BK283.out 2).trans rfl
                                                        have hfz80_0 := blk_frozen BK283.out 0
                                                        have hfz80_1 := blk_frozen BK283.out 1
                                                        have hfz80_2 := blk_frozen BK283.out 2
                                                        have p308 : 0 ≤ (x11_6 : Int) := of_decide_eq_true (by first | (with_reducible assumption) | assumption)
                                                        have q308 : x11_6 < (l0_1.length : Int) := of_decide_eq_true (by first | (with_reducible assumption) | assumption)
                                                        obtain ⟨ad308, e308, hx308_0, hx308_1, hx308_2⟩ := at_T75 HR0_1.out x11_6 p308 q308
                                                        cases e308
                                                        replace hx308_0 := (HB.out.cell (World.block_lt_of_cell? w _ hx308_0)).trans hx308_0
                                                        replace hx308_1 := (HB.out.cell (World.block_lt_of_cell? w _ hx308_1)).trans hx308_1
                                                        replace hx308_2 := (HB.out.cell (World.block_lt_of_cell? w _ hx308_2)).trans hx308_2
                                                        replace p308 := eq_true p308
                                                        replace q308 := eq_true q308
                                                        go_wp2_with (first | ((with_reducible refine gate_dst (N := 12) rfl ?_); (try (refine gate_guard (by rfl) ?_; dsimp only)); refine box_event ?hg (N := 12) ?hd (cs := #[.int .i64 0, .int .i64 0, .int .u64 0]) (t := 75) ?hr ?_; (case hd => rfl); (case hg => rfl); (case hr => first | (go_simp; done) | (go_simp; rfl)); intro gb309 hg w81 hbox hb; have n0_ := Aside0.mk (Kd.S_below (by (with_reducible repeat (first | apply Kd.S_alloc | apply Kd.S_drewN | apply Kd.S_drew)); exact HO_9.out) hb); have n1_ := Aside0.mk (blk_below (g := gb283) (o := .cells #[.int .i64 a0_0, .slice (some ad308) l0_1.length c0_1, .slice A0_2 l0_2.length c0_2] 59 (0, 0)) (by (with_reducible repeat (first | refine blk_drewN ?_ _ | refine blk_drew ?_ | refine blk_alloc ?_ _)); exact BK283.out) hb); have n2_ := Aside0.mk (below_step (by repeat (first | (with_reducible first | exact HB.out | apply below_alloc | apply pw_below_drewN | apply below_drew1 | refine below_set ?_ GE283.out) | exact HB.out)) hb); have n3_ := Aside0.mk (hbox); have n4_ := Aside0.mk ((by rw [hg]; exact (below_size (by repeat (first | (with_reducible first | exact HB.out | apply below_alloc | apply pw_below_drewN | apply below_drew1 | refine below_set ?_ GE283.out) | exact HB.out))) : w.heap.size ≤ gb309)); have n5_ := Aside0.mk ((by rw [hg]; exact (below_size (by repeat (first | (with_reducible first | exact HB.out | apply below_alloc | apply pw_below_drewN | apply below_drew1 | refine below_set ?_ GE283.out) | exact HB.out))) : w.heap.size ≤ gb309)); have n6_ := Aside0.mk ((by rw [hg]; exact Nat.ne_of_lt (blk_lt (g := gb283) (o := .cells #[.int .i64 a0_0, .slice (some ad308) l0_1.length c0_1, .slice A0_2 l0_2.length c0_2] 59 (0, 0)) (by (with_reducible repeat (first | refine blk_drewN ?_ _ | refine blk_drew ?_ | refine blk_alloc ?_ _)); exact BK283.out)) : gb283 ≠ gb309)); have n7_ := Aside0.mk ((by rw [hg]; exact Nat.ne_of_gt (blk_lt (g := gb283) (o := .cells #[.int .i64 a0_0, .slice (some ad308) l0_1.length c0_1, .slice A0_2 l0_2.length c0_2] 59 (0, 0)) (by (with_reducible repeat (first | refine blk_drewN ?_ _ | refine blk_drew ?_ | refine blk_alloc ?_ _)); exact BK283.out)) : gb309 ≠ gb283)); clear HO_9; clear BK283; clear HB; have HO_9 := n0_; have BK283 := n1_; have HB := n2_; have BK309 := n3_; have GW309 := n4_; have GE309 := n5_; have NB283_309 := n6_; have NB309_283 := n7_; clear n0_ n1_ n2_ n3_ n4_ n5_ n6_ n7_; clear hb hbox hg; have hnb82 := NB309_283.out; have hnc82 := NB283_309.out; have hcz83_0 : w81.cell? ⟨gb309, 0, none⟩ = some (.int .i64 0) := (blk_cell BK309.out 0).trans rfl; have hcz83_1 : w81.cell? ⟨gb309, 1, none⟩ = some (.int .i64 0) := (blk_cell BK309.out 1).trans rfl; have hcz83_2 : w81.cell? ⟨gb309, 2, none⟩ = some (.int .u64 0) := (blk_cell BK309.out 2).trans rfl; have hfz83_0 := blk_frozen BK309.out 0; have hfz83_1 := blk_frozen BK309.out 1; have hfz83_2 := blk_frozen BK309.out 2) | ((with_reducible refine gate_store (t := 75) (p := 12) rfl ?_); (try (rw [drewN_self w81]; generalize hq_ : World.drewN w81 _ = w81; have n0_ := Aside0.mk (Kd.S_at hq_ HO_9.out); have n1_ := Aside0.mk (blk_at hq_ BK283.out); have n2_ := Aside0.mk (blk_at hq_ BK309.out); have n3_ := Aside0.mk (below_at hq_ HB.out); clear hq_ HO_9 BK283 BK309 HB; have HO_9 := n0_; have BK283 := n1_; have BK309 := n2_; have HB := n3_; clear n0_ n1_ n2_ n3_)); refine store_event (t := 75) (p := 12) (v := ?vo_w84) (w1 := (((w81.setCell ⟨gb309, 0, none⟩ (.int .i64 ((rd_T75 l0_1 x11_6).f0))).setCell ⟨gb309, 1, none⟩ (.int .i64 ((rd_T75 l0_1 x11_6).f1))).setCell ⟨gb309, 2, none⟩ (.int .u64 ((rd_T75 l0_1 x11_6).f2)))) ?hg ?ho ?hn ?hr ?_; (case ho => rfl); (case hg => rfl); (case hn => rfl); (case hr => first | (go_simp; done) | (go_simp; rfl)); intro w84 hw; have n0_ : Aside0 (Kd.S (Kd.slice 22 (Kd.int .u64)) 73 w84 w.heap.size (fun _ => True) v306 t305) := ⟨(by rw [hw]; exact (by (with_reducible repeat (first | apply Kd.S_alloc | apply Kd.S_drewN | apply Kd.S_drew)); exact Kd.S_mono (Kd.S_far (p := ⟨gb309, 2, none⟩) (Kd.S_far (p := ⟨gb309, 1, none⟩) (Kd.S_far (p := ⟨gb309, 0, none⟩) (Kd.S_types HO_9.out BK309.out (by decide)) (fun _ hk => hk.2) (.int .i64 ((rd_T75 l0_1 x11_6).f0))) (fun _ hk => hk.2) (.int .i64 ((rd_T75 l0_1 x11_6).f1))) (fun _ hk => hk.2) (.int .u64 ((rd_T75 l0_1 x11_6).f2))) (fun _ hk => trivial)))⟩; have n1_ : Aside0 (w84.heap[gb283]? = some (.cells #[.int .i64 a0_0, .slice (some ad308) l0_1.length c0_1, .slice A0_2 l0_2.length c0_2] 59 (0, 0))) := ⟨(by rw [hw]; exact (by (with_reducible repeat (first | refine blk_drewN ?_ _ | refine blk_drew ?_ | refine blk_alloc ?_ _)); refine blk_far ?_ NB283_309.out _; (with_reducible repeat (first | refine blk_drewN ?_ _ | refine blk_drew ?_ | refine blk_alloc ?_ _)); refine blk_far ?_ NB283_309.out _; (with_reducible repeat (first | refine blk_drewN ?_ _ | refine blk_drew ?_ | refine blk_alloc ?_ _)); refine blk_far ?_ NB283_309.out _; (with_reducible repeat (first | refine blk_drewN ?_ _ | refine blk_drew ?_ | refine blk_alloc ?_ _)); exact BK283.out))⟩; have n2_ : Aside0 (w84.heap[gb309]? = some (.cells #[.int .i64 ((rd_T75 l0_1 x11_6).f0), .int .i64 ((rd_T75 l0_1 x11_6).f1), .int .u64 ((rd_T75 l0_1 x11_6).f2)] 75 (0, 0))) := ⟨(by rw [hw]; exact (by (with_reducible repeat (first | refine blk_drewN ?_ _ | refine blk_drew ?_ | refine blk_alloc ?_ _)); refine blk_put (cs := #[.int .i64 ((rd_T75 l0_1 x11_6).f0), .int .i64 ((rd_T75 l0_1 x11_6).f1), .int .u64 0]) ?_ 2 _ rfl; (with_reducible repeat (first | refine blk_drewN ?_ _ | refine blk_drew ?_ | refine blk_alloc ?_ _)); refine blk_put (cs := #[.int .i64 ((rd_T75 l0_1 x11_6).f0), .int .i64 0, .int .u64 0]) ?_ 1 _ rfl; (with_reducible repeat (first | refine blk_drewN ?_ _ | refine blk_drew ?_ | refine blk_alloc ?_ _)); refine blk_put (cs := #[.int .i64 0, .int .i64 0, .int .u64 0]) ?_ 0 _ rfl; (with_reducible repeat (first | refine blk_drewN ?_ _ | refine blk_drew ?_ | refine blk_alloc ?_ _)); exact BK309.out))⟩; have n3_ : Aside0 (Below w.heap.size w w84) := ⟨(by rw [hw]; exact (by repeat (first | (with_reducible first | exact HB.out | apply below_alloc | apply pw_below_drewN | apply below_drew1 | refine below_set ?_ GE283.out | refine below_set ?_ GE309.out) | exact HB.out)))⟩; clear hw; clear HO_9; clear BK283; clear BK309; clear HB; have HO_9 := n0_; have BK283 := n1_; have BK309 := n2_; have HB := n3_; clear n0_ n1_ n2_ n3_; have hcz85_0 : w84.cell? ⟨gb309, 0, none⟩ = some (.int .i64 ((rd_T75 l0_1 x11_6).f0)) := (blk_cell BK309.out 0).trans rfl; have hcz85_1 : w84.cell? ⟨gb309, 1, none⟩ = some (.int .i64 ((rd_T75 l0_1 x11_6).f1)) := (blk_cell BK309.out 1).trans rfl; have hcz85_2 : w84.cell? ⟨gb309, 2, none⟩ = some (.int .u64 ((rd_T75 l0_1 x11_6).f2)) := (blk_cell BK309.out 2).trans rfl; have hfz85_0 := blk_frozen BK309.out 0; have hfz85_1 := blk_frozen BK309.out 1; have hfz85_2 := blk_frozen BK309.out 2; obtain ⟨Ao86, co86, eo86⟩ := Kd.S_slice HO_9.out; subst eo86; have p310 : 0 ≤ (((rd_T75 l0_1 x11_6).f1) : Int) := of_decide_eq_true (by first | (with_reducible assumption) | assumption); have q310 : ((rd_T75 l0_1 x11_6).f1) < (t305.length : Int) := of_decide_eq_true (by first | (with_reducible assumption) | assumption); obtain ⟨ad310, A310_0, c310_0, e310, hx310_0, hl310_0, hi310_0⟩ := at_L8 (Kd.S_reads' HO_9.out).2.2 ((rd_T75 l0_1 x11_6).f1) p310 q310; cases e310; obtain ⟨ce310, hce310, hMe310, hcc310⟩ := Kd.S_get HO_9.out [] ((rd_T75 l0_1 x11_6).f1) p310 (by first | exact q310 | exact of_decide_eq_true (by first | (with_reducible assumption) | assumption) | (have e_ := (Kd.S_reads' HO_9.out).1; omega)); obtain ⟨ve310_0, rfl, ge310_0⟩ := hMe310; have hv310_0 := hcc310 0 _ rfl; rw [Nat.add_zero, show ((Kd.slice 22 (Kd.int .u64))).sz = 1 from rfl, Nat.mul_one] at hv310_0; replace hv310_0 := Option.some.inj (hv310_0.symm.trans hx310_0); rw [hv310_0] at ge310_0; have HL310_0 := Aside0.mk (show Kd.R (Kd.int .u64) 22 _ _ _ _ (rd_L8 t305 ((rd_T75 l0_1 x11_6).f1)) from ge310_0); clear hv310_0 ge310_0; clear hcc310 hce310; have HR310_0 := Aside0.mk hi310_0; have HC310_0 := Aside0.mk hl310_0; clear hi310_0 hl310_0; replace p310 := eq_true p310; replace q310 := eq_true q310; have p311 : 0 ≤ (x10_5 : Int) := of_decide_eq_true (by first | (with_reducible assumption) | assumption); have q311 : x10_5 < ((rd_L8 t305 ((rd_T75 l0_1 x11_6).f1)).length : Int) := of_decide_eq_true (by first | (with_reducible assumption) | assumption); obtain ⟨ad311, e311, hx311_0⟩ := Kd.at_int (by repeat (first | (with_reducible exact HR310_0.out) | (with_reducible refine Kd.C_alloc ?_ _) | (with_reducible refine Kd.C_drewN ?_ _) | (with_reducible refine Kd.C_drew ?_) | exact HR310_0.out)) x10_5 p311 q311; cases e311; replace p311 := eq_true p311; replace q311 := eq_true q311))
                                                        repeat (go_quiet (first | ((with_reducible refine gate_dst (N := 12) rfl ?_); (try (refine gate_guard (by rfl) ?_; dsimp only)); refine box_event ?hg (N := 12) ?hd (cs := #[.int .i64 0, .int .i64 0, .int .u64 0]) (t := 75) ?hr ?_; (case hd => rfl); (case hg => rfl); (case hr => first | (go_simp; done) | (go_simp; rfl)); intro gb309 hg w81 hbox hb; have n0_ := Aside0.mk (Kd.S_below (by (with_reducible repeat (first | apply Kd.S_alloc | apply Kd.S_drewN | apply Kd.S_drew)); exact HO_9.out) hb); have n1_ := Aside0.mk (blk_below (g := gb283) (o := .cells #[.int .i64 a0_0, .slice (some ad308) l0_1.length c0_1, .slice A0_2 l0_2.length c0_2] 59 (0, 0)) (by (with_reducible repeat (first | refine blk_drewN ?_ _ | refine blk_drew ?_ | refine blk_alloc ?_ _)); exact BK283.out) hb); have n2_ := Aside0.mk (below_step (by repeat (first | (with_reducible first | exact HB.out | apply below_alloc | apply pw_below_drewN | apply below_drew1 | refine below_set ?_ GE283.out) | exact HB.out)) hb); have n3_ := Aside0.mk (hbox); have n4_ := Aside0.mk ((by rw [hg]; exact (below_size (by repeat (first | (with_reducible first | exact HB.out | apply below_alloc | apply pw_below_drewN | apply below_drew1 | refine below_set ?_ GE283.out) | exact HB.out))) : w.heap.size ≤ gb309)); have n5_ := Aside0.mk ((by rw [hg]; exact (below_size (by repeat (first | (with_reducible first | exact HB.out | apply below_alloc | apply pw_below_drewN | apply below_drew1 | refine below_set ?_ GE283.out) | exact HB.out))) : w.heap.size ≤ gb309)); have n6_ := Aside0.mk ((by rw [hg]; exact Nat.ne_of_lt (blk_lt (g := gb283) (o := .cells #[.int .i64 a0_0, .slice (some ad308) l0_1.length c0_1, .slice A0_2 l0_2.length c0_2] 59 (0, 0)) (by (with_reducible repeat (first | refine blk_drewN ?_ _ | refine blk_drew ?_ | refine blk_alloc ?_ _)); exact BK283.out)) : gb283 ≠ gb309)); have n7_ := Aside0.mk ((by rw [hg]; exact Nat.ne_of_gt (blk_lt (g := gb283) (o := .cells #[.int .i64 a0_0, .slice (some ad308) l0_1.length c0_1, .slice A0_2 l0_2.length c0_2] 59 (0, 0)) (by (with_reducible repeat (first | refine blk_drewN ?_ _ | refine blk_drew ?_ | refine blk_alloc ?_ _)); exact BK283.out)) : gb309 ≠ gb283)); clear HO_9; clear BK283; clear HB; have HO_9 := n0_; have BK283 := n1_; have HB := n2_; have BK309 := n3_; have GW309 := n4_; have GE309 := n5_; have NB283_309 := n6_; have NB309_283 := n7_; clear n0_ n1_ n2_ n3_ n4_ n5_ n6_ n7_; clear hb hbox hg; have hnb82 := NB309_283.out; have hnc82 := NB283_309.out; have hcz83_0 : w81.cell? ⟨gb309, 0, none⟩ = some (.int .i64 0) := (blk_cell BK309.out 0).trans rfl; have hcz83_1 : w81.cell? ⟨gb309, 1, none⟩ = some (.int .i64 0) := (blk_cell BK309.out 1).trans rfl; have hcz83_2 : w81.cell? ⟨gb309, 2, none⟩ = some (.int .u64 0) := (blk_cell BK309.out 2).trans rfl; have hfz83_0 := blk_frozen BK309.out 0; have hfz83_1 := blk_frozen BK309.out 1; have hfz83_2 := blk_frozen BK309.out 2) | ((with_reducible refine gate_store (t := 75) (p := 12) rfl ?_); (try (rw [drewN_self w81]; generalize hq_ : World.drewN w81 _ = w81; have n0_ := Aside0.mk (Kd.S_at hq_ HO_9.out); have n1_ := Aside0.mk (blk_at hq_ BK283.out); have n2_ := Aside0.mk (blk_at hq_ BK309.out); have n3_ := Aside0.mk (below_at hq_ HB.out); clear hq_ HO_9 BK283 BK309 HB; have HO_9 := n0_; have BK283 := n1_; have BK309 := n2_; have HB := n3_; clear n0_ n1_ n2_ n3_)); refine store_event (t := 75) (p := 12) (v := ?vo_w84) (w1 := (((w81.setCell ⟨gb309, 0, none⟩ (.int .i64 ((rd_T75 l0_1 x11_6).f0))).setCell ⟨gb309, 1, none⟩ (.int .i64 ((rd_T75 l0_1 x11_6).f1))).setCell ⟨gb309, 2, none⟩ (.int .u64 ((rd_T75 l0_1 x11_6).f2)))) ?hg ?ho ?hn ?hr ?_; (case ho => rfl); (case hg => rfl); (case hn => rfl); (case hr => first | (go_simp; done) | (go_simp; rfl)); intro w84 hw; have n0_ : Aside0 (Kd.S (Kd.slice 22 (Kd.int .u64)) 73 w84 w.heap.size (fun _ => True) v306 t305) := ⟨(by rw [hw]; exact (by (with_reducible repeat (first | apply Kd.S_alloc | apply Kd.S_drewN | apply Kd.S_drew)); exact Kd.S_mono (Kd.S_far (p := ⟨gb309, 2, none⟩) (Kd.S_far (p := ⟨gb309, 1, none⟩) (Kd.S_far (p := ⟨gb309, 0, none⟩) (Kd.S_types HO_9.out BK309.out (by decide)) (fun _ hk => hk.2) (.int .i64 ((rd_T75 l0_1 x11_6).f0))) (fun _ hk => hk.2) (.int .i64 ((rd_T75 l0_1 x11_6).f1))) (fun _ hk => hk.2) (.int .u64 ((rd_T75 l0_1 x11_6).f2))) (fun _ hk => trivial)))⟩; have n1_ : Aside0 (w84.heap[gb283]? = some (.cells #[.int .i64 a0_0, .slice (some ad308) l0_1.length c0_1, .slice A0_2 l0_2.length c0_2] 59 (0, 0))) := ⟨(by rw [hw]; exact (by (with_reducible repeat (first | refine blk_drewN ?_ _ | refine blk_drew ?_ | refine blk_alloc ?_ _)); refine blk_far ?_ NB283_309.out _; (with_reducible repeat (first | refine blk_drewN ?_ _ | refine blk_drew ?_ | refine blk_alloc ?_ _)); refine blk_far ?_ NB283_309.out _; (with_reducible repeat (first | refine blk_drewN ?_ _ | refine blk_drew ?_ | refine blk_alloc ?_ _)); refine blk_far ?_ NB283_309.out _; (with_reducible repeat (first | refine blk_drewN ?_ _ | refine blk_drew ?_ | refine blk_alloc ?_ _)); exact BK283.out))⟩; have n2_ : Aside0 (w84.heap[gb309]? = some (.cells #[.int .i64 ((rd_T75 l0_1 x11_6).f0), .int .i64 ((rd_T75 l0_1 x11_6).f1), .int .u64 ((rd_T75 l0_1 x11_6).f2)] 75 (0, 0))) := ⟨(by rw [hw]; exact (by (with_reducible repeat (first | refine blk_drewN ?_ _ | refine blk_drew ?_ | refine blk_alloc ?_ _)); refine blk_put (cs := #[.int .i64 ((rd_T75 l0_1 x11_6).f0), .int .i64 ((rd_T75 l0_1 x11_6).f1), .int .u64 0]) ?_ 2 _ rfl; (with_reducible repeat (first | refine blk_drewN ?_ _ | refine blk_drew ?_ | refine blk_alloc ?_ _)); refine blk_put (cs := #[.int .i64 ((rd_T75 l0_1 x11_6).f0), .int .i64 0, .int .u64 0]) ?_ 1 _ rfl; (with_reducible repeat (first | refine blk_drewN ?_ _ | refine blk_drew ?_ | refine blk_alloc ?_ _)); refine blk_put (cs := #[.int .i64 0, .int .i64 0, .int .u64 0]) ?_ 0 _ rfl; (with_reducible repeat (first | refine blk_drewN ?_ _ | refine blk_drew ?_ | refine blk_alloc ?_ _)); exact BK309.out))⟩; have n3_ : Aside0 (Below w.heap.size w w84) := ⟨(by rw [hw]; exact (by repeat (first | (with_reducible first | exact HB.out | apply below_alloc | apply pw_below_drewN | apply below_drew1 | refine below_set ?_ GE283.out | refine below_set ?_ GE309.out) | exact HB.out)))⟩; clear hw; clear HO_9; clear BK283; clear BK309; clear HB; have HO_9 := n0_; have BK283 := n1_; have BK309 := n2_; have HB := n3_; clear n0_ n1_ n2_ n3_; have hcz85_0 : w84.cell? ⟨gb309, 0, none⟩ = some (.int .i64 ((rd_T75 l0_1 x11_6).f0)) := (blk_cell BK309.out 0).trans rfl; have hcz85_1 : w84.cell? ⟨gb309, 1, none⟩ = some (.int .i64 ((rd_T75 l0_1 x11_6).f1)) := (blk_cell BK309.out 1).trans rfl; have hcz85_2 : w84.cell? ⟨gb309, 2, none⟩ = some (.int .u64 ((rd_T75 l0_1 x11_6).f2)) := (blk_cell BK309.out 2).trans rfl; have hfz85_0 := blk_frozen BK309.out 0; have hfz85_1 := blk_frozen BK309.out 1; have hfz85_2 := blk_frozen BK309.out 2; obtain ⟨Ao86, co86, eo86⟩ := Kd.S_slice HO_9.out; subst eo86; have p310 : 0 ≤ (((rd_T75 l0_1 x11_6).f1) : Int) := of_decide_eq_true (by first | (with_reducible assumption) | assumption); have q310 : ((rd_T75 l0_1 x11_6).f1) < (t305.length : Int) := of_decide_eq_true (by first | (with_reducible assumption) | assumption); obtain ⟨ad310, A310_0, c310_0, e310, hx310_0, hl310_0, hi310_0⟩ := at_L8 (Kd.S_reads' HO_9.out).2.2 ((rd_T75 l0_1 x11_6).f1) p310 q310; cases e310; obtain ⟨ce310, hce310, hMe310, hcc310⟩ := Kd.S_get HO_9.out [] ((rd_T75 l0_1 x11_6).f1) p310 (by first | exact q310 | exact of_decide_eq_true (by first | (with_reducible assumption) | assumption) | (have e_ := (Kd.S_reads' HO_9.out).1; omega)); obtain ⟨ve310_0, rfl, ge310_0⟩ := hMe310; have hv310_0 := hcc310 0 _ rfl; rw [Nat.add_zero, show ((Kd.slice 22 (Kd.int .u64))).sz = 1 from rfl, Nat.mul_one] at hv310_0; replace hv310_0 := Option.some.inj (hv310_0.symm.trans hx310_0); rw [hv310_0] at ge310_0; have HL310_0 := Aside0.mk (show Kd.R (Kd.int .u64) 22 _ _ _ _ (rd_L8 t305 ((rd_T75 l0_1 x11_6).f1)) from ge310_0); clear hv310_0 ge310_0; clear hcc310 hce310; have HR310_0 := Aside0.mk hi310_0; have HC310_0 := Aside0.mk hl310_0; clear hi310_0 hl310_0; replace p310 := eq_true p310; replace q310 := eq_true q310; have p311 : 0 ≤ (x10_5 : Int) := of_decide_eq_true (by first | (with_reducible assumption) | assumption); have q311 : x10_5 < ((rd_L8 t305 ((rd_T75 l0_1 x11_6).f1)).length : Int) := of_decide_eq_true (by first | (with_reducible assumption) | assumption); obtain ⟨ad311, e311, hx311_0⟩ := Kd.at_int (by repeat (first | (with_reducible exact HR310_0.out) | (with_reducible refine Kd.C_alloc ?_ _) | (with_reducible refine Kd.C_drewN ?_ _) | (with_reducible refine Kd.C_drew ?_) | exact HR310_0.out)) x10_5 p311 q311; cases e311; replace p311 := eq_true p311; replace q311 := eq_true q311)); try go_wp2_with (first | ((with_reducible refine gate_dst (N := 12) rfl ?_); (try (refine gate_guard (by rfl) ?_; dsimp only)); refine box_event ?hg (N := 12) ?hd (cs := #[.int .i64 0, .int .i64 0, .int .u64 0]) (t := 75) ?hr ?_; (case hd => rfl); (case hg => rfl); (case hr => first | (go_simp; done) | (go_simp; rfl)); intro gb309 hg w81 hbox hb; have n0_ := Aside0.mk (Kd.S_below (by (with_reducible repeat (first | apply Kd.S_alloc | apply Kd.S_drewN | apply Kd.S_drew)); exact HO_9.out) hb); have n1_ := Aside0.mk (blk_below (g := gb283) (o := .cells #[.int .i64 a0_0, .slice (some ad308) l0_1.length c0_1, .slice A0_2 l0_2.length c0_2] 59 (0, 0)) (by (with_reducible repeat (first | refine blk_drewN ?_ _ | refine blk_drew ?_ | refine blk_alloc ?_ _)); exact BK283.out) hb); have n2_ := Aside0.mk (below_step (by repeat (first | (with_reducible first | exact HB.out | apply below_alloc | apply pw_below_drewN | apply below_drew1 | refine below_set ?_ GE283.out) | exact HB.out)) hb); have n3_ := Aside0.mk (hbox); have n4_ := Aside0.mk ((by rw [hg]; exact (below_size (by repeat (first | (with_reducible first | exact HB.out | apply below_alloc | apply pw_below_drewN | apply below_drew1 | refine below_set ?_ GE283.out) | exact HB.out))) : w.heap.size ≤ gb309)); have n5_ := Aside0.mk ((by rw [hg]; exact (below_size (by repeat (first | (with_reducible first | exact HB.out | apply below_alloc | apply pw_below_drewN | apply below_drew1 | refine below_set ?_ GE283.out) | exact HB.out))) : w.heap.size ≤ gb309)); have n6_ := Aside0.mk ((by rw [hg]; exact Nat.ne_of_lt (blk_lt (g := gb283) (o := .cells #[.int .i64 a0_0, .slice (some ad308) l0_1.length c0_1, .slice A0_2 l0_2.length c0_2] 59 (0, 0)) (by (with_reducible repeat (first | refine blk_drewN ?_ _ | refine blk_drew ?_ | refine blk_alloc ?_ _)); exact BK283.out)) : gb283 ≠ gb309)); have n7_ := Aside0.mk ((by rw [hg]; exact Nat.ne_of_gt (blk_lt (g := gb283) (o := .cells #[.int .i64 a0_0, .slice (some ad308) l0_1.length c0_1, .slice A0_2 l0_2.length c0_2] 59 (0, 0)) (by (with_reducible repeat (first | refine blk_drewN ?_ _ | refine blk_drew ?_ | refine blk_alloc ?_ _)); exact BK283.out)) : gb309 ≠ gb283)); clear HO_9; clear BK283; clear HB; have HO_9 := n0_; have BK283 := n1_; have HB := n2_; have BK309 := n3_; have GW309 := n4_; have GE309 := n5_; have NB283_309 := n6_; have NB309_283 := n7_; clear n0_ n1_ n2_ n3_ n4_ n5_ n6_ n7_; clear hb hbox hg; have hnb82 := NB309_283.out; have hnc82 := NB283_309.out; have hcz83_0 : w81.cell? ⟨gb309, 0, none⟩ = some (.int .i64 0) := (blk_cell BK309.out 0).trans rfl; have hcz83_1 : w81.cell? ⟨gb309, 1, none⟩ = some (.int .i64 0) := (blk_cell BK309.out 1).trans rfl; have hcz83_2 : w81.cell? ⟨gb309, 2, none⟩ = some (.int .u64 0) := (blk_cell BK309.out 2).trans rfl; have hfz83_0 := blk_frozen BK309.out 0; have hfz83_1 := blk_frozen BK309.out 1; have hfz83_2 := blk_frozen BK309.out 2) | ((with_reducible refine gate_store (t := 75) (p := 12) rfl ?_); (try (rw [drewN_self w81]; generalize hq_ : World.drewN w81 _ = w81; have n0_ := Aside0.mk (Kd.S_at hq_ HO_9.out); have n1_ := Aside0.mk (blk_at hq_ BK283.out); have n2_ := Aside0.mk (blk_at hq_ BK309.out); have n3_ := Aside0.mk (below_at hq_ HB.out); clear hq_ HO_9 BK283 BK309 HB; have HO_9 := n0_; have BK283 := n1_; have BK309 := n2_; have HB := n3_; clear n0_ n1_ n2_ n3_)); refine store_event (t := 75) (p := 12) (v := ?vo_w84) (w1 := (((w81.setCell ⟨gb309, 0, none⟩ (.int .i64 ((rd_T75 l0_1 x11_6).f0))).setCell ⟨gb309, 1, none⟩ (.int .i64 ((rd_T75 l0_1 x11_6).f1))).setCell ⟨gb309, 2, none⟩ (.int .u64 ((rd_T75 l0_1 x11_6).f2)))) ?hg ?ho ?hn ?hr ?_; (case ho => rfl); (case hg => rfl); (case hn => rfl); (case hr => first | (go_simp; done) | (go_simp; rfl)); intro w84 hw; have n0_ : Aside0 (Kd.S (Kd.slice 22 (Kd.int .u64)) 73 w84 w.heap.size (fun _ => True) v306 t305) := ⟨(by rw [hw]; exact (by (with_reducible repeat (first | apply Kd.S_alloc | apply Kd.S_drewN | apply Kd.S_drew)); exact Kd.S_mono (Kd.S_far (p := ⟨gb309, 2, none⟩) (Kd.S_far (p := ⟨gb309, 1, none⟩) (Kd.S_far (p := ⟨gb309, 0, none⟩) (Kd.S_types HO_9.out BK309.out (by decide)) (fun _ hk => hk.2) (.int .i64 ((rd_T75 l0_1 x11_6).f0))) (fun _ hk => hk.2) (.int .i64 ((rd_T75 l0_1 x11_6).f1))) (fun _ hk => hk.2) (.int .u64 ((rd_T75 l0_1 x11_6).f2))) (fun _ hk => trivial)))⟩; have n1_ : Aside0 (w84.heap[gb283]? = some (.cells #[.int .i64 a0_0, .slice (some ad308) l0_1.length c0_1, .slice A0_2 l0_2.length c0_2] 59 (0, 0))) := ⟨(by rw [hw]; exact (by (with_reducible repeat (first | refine blk_drewN ?_ _ | refine blk_drew ?_ | refine blk_alloc ?_ _)); refine blk_far ?_ NB283_309.out _; (with_reducible repeat (first | refine blk_drewN ?_ _ | refine blk_drew ?_ | refine blk_alloc ?_ _)); refine blk_far ?_ NB283_309.out _; (with_reducible repeat (first | refine blk_drewN ?_ _ | refine blk_drew ?_ | refine blk_alloc ?_ _)); refine blk_far ?_ NB283_309.out _; (with_reducible repeat (first | refine blk_drewN ?_ _ | refine blk_drew ?_ | refine blk_alloc ?_ _)); exact BK283.out))⟩; have n2_ : Aside0 (w84.heap[gb309]? = some (.cells #[.int .i64 ((rd_T75 l0_1 x11_6).f0), .int .i64 ((rd_T75 l0_1 x11_6).f1), .int .u64 ((rd_T75 l0_1 x11_6).f2)] 75 (0, 0))) := ⟨(by rw [hw]; exact (by (with_reducible repeat (first | refine blk_drewN ?_ _ | refine blk_drew ?_ | refine blk_alloc ?_ _)); refine blk_put (cs := #[.int .i64 ((rd_T75 l0_1 x11_6).f0), .int .i64 ((rd_T75 l0_1 x11_6).f1), .int .u64 0]) ?_ 2 _ rfl; (with_reducible repeat (first | refine blk_drewN ?_ _ | refine blk_drew ?_ | refine blk_alloc ?_ _)); refine blk_put (cs := #[.int .i64 ((rd_T75 l0_1 x11_6).f0), .int .i64 0, .int .u64 0]) ?_ 1 _ rfl; (with_reducible repeat (first | refine blk_drewN ?_ _ | refine blk_drew ?_ | refine blk_alloc ?_ _)); refine blk_put (cs := #[.int .i64 0, .int .i64 0, .int .u64 0]) ?_ 0 _ rfl; (with_reducible repeat (first | refine blk_drewN ?_ _ | refine blk_drew ?_ | refine blk_alloc ?_ _)); exact BK309.out))⟩; have n3_ : Aside0 (Below w.heap.size w w84) := ⟨(by rw [hw]; exact (by repeat (first | (with_reducible first | exact HB.out | apply below_alloc | apply pw_below_drewN | apply below_drew1 | refine below_set ?_ GE283.out | refine below_set ?_ GE309.out) | exact HB.out)))⟩; clear hw; clear HO_9; clear BK283; clear BK309; clear HB; have HO_9 := n0_; have BK283 := n1_; have BK309 := n2_; have HB := n3_; clear n0_ n1_ n2_ n3_; have hcz85_0 : w84.cell? ⟨gb309, 0, none⟩ = some (.int .i64 ((rd_T75 l0_1 x11_6).f0)) := (blk_cell BK309.out 0).trans rfl; have hcz85_1 : w84.cell? ⟨gb309, 1, none⟩ = some (.int .i64 ((rd_T75 l0_1 x11_6).f1)) := (blk_cell BK309.out 1).trans rfl; have hcz85_2 : w84.cell? ⟨gb309, 2, none⟩ = some (.int .u64 ((rd_T75 l0_1 x11_6).f2)) := (blk_cell BK309.out 2).trans rfl; have hfz85_0 := blk_frozen BK309.out 0; have hfz85_1 := blk_frozen BK309.out 1; have hfz85_2 := blk_frozen BK309.out 2; obtain ⟨Ao86, co86, eo86⟩ := Kd.S_slice HO_9.out; subst eo86; have p310 : 0 ≤ (((rd_T75 l0_1 x11_6).f1) : Int) := of_decide_eq_true (by first | (with_reducible assumption) | assumption); have q310 : ((rd_T75 l0_1 x11_6).f1) < (t305.length : Int) := of_decide_eq_true (by first | (with_reducible assumption) | assumption); obtain ⟨ad310, A310_0, c310_0, e310, hx310_0, hl310_0, hi310_0⟩ := at_L8 (Kd.S_reads' HO_9.out).2.2 ((rd_T75 l0_1 x11_6).f1) p310 q310; cases e310; obtain ⟨ce310, hce310, hMe310, hcc310⟩ := Kd.S_get HO_9.out [] ((rd_T75 l0_1 x11_6).f1) p310 (by first | exact q310 | exact of_decide_eq_true (by first | (with_reducible assumption) | assumption) | (have e_ := (Kd.S_reads' HO_9.out).1; omega)); obtain ⟨ve310_0, rfl, ge310_0⟩ := hMe310; have hv310_0 := hcc310 0 _ rfl; rw [Nat.add_zero, show ((Kd.slice 22 (Kd.int .u64))).sz = 1 from rfl, Nat.mul_one] at hv310_0; replace hv310_0 := Option.some.inj (hv310_0.symm.trans hx310_0); rw [hv310_0] at ge310_0; have HL310_0 := Aside0.mk (show Kd.R (Kd.int .u64) 22 _ _ _ _ (rd_L8 t305 ((rd_T75 l0_1 x11_6).f1)) from ge310_0); clear hv310_0 ge310_0; clear hcc310 hce310; have HR310_0 := Aside0.mk hi310_0; have HC310_0 := Aside0.mk hl310_0; clear hi310_0 hl310_0; replace p310 := eq_true p310; replace q310 := eq_true q310; have p311 : 0 ≤ (x10_5 : Int) := of_decide_eq_true (by first | (with_reducible assumption) | assumption); have q311 : x10_5 < ((rd_L8 t305 ((rd_T75 l0_1 x11_6).f1)).length : Int) := of_decide_eq_true (by first | (with_reducible assumption) | assumption); obtain ⟨ad311, e311, hx311_0⟩ := Kd.at_int (by repeat (first | (with_reducible exact HR310_0.out) | (with_reducible refine Kd.C_alloc ?_ _) | (with_reducible refine Kd.C_drewN ?_ _) | (with_reducible refine Kd.C_drew ?_) | exact HR310_0.out)) x10_5 p311 q311; cases e311; replace p311 := eq_true p311; replace q311 := eq_true q311)))
                                                        go_roundg k6
                                                        case measure => have := HJ1.out; have := HK2.out; have := HJ30.out; have := HK4.out; have := HK5.out; have := HK6.out; omega
                                                        case rel => exact ⟨(wrap64 (x11_6 + 1)), (by first | rfl | (simp; done) | (simp [*]; done)), H', ⟨by have := HJ1.out; have := HK2.out; have := HJ30.out; have := HK4.out; have := HK5.out; have := HK6.out; omega⟩, ⟨by (with_reducible repeat (first | apply Kd.S_alloc | apply Kd.S_drewN | apply Kd.S_drew)); exact HO_9.out⟩, ⟨by (with_reducible repeat (first | refine blk_drewN ?_ _ | refine blk_drew ?_ | refine blk_alloc ?_ _)); exact BK283.out⟩, ⟨by repeat (first | (with_reducible first | exact HB.out | apply below_alloc | apply pw_below_drewN | apply below_drew1 | refine below_set ?_ GE283.out | refine below_set ?_ GE309.out) | exact HB.out)⟩⟩
                                                    · rw [if_neg c69] at H
                                                      exact absurd H (by simp)
                                                  · rw [if_neg c68] at H
                                                    exact absurd H (by simp)
                                                · rw [if_neg c67] at H
                                                  exact absurd H (by simp)
                                              · rw [if_neg c66] at H
                                                exact absurd H (by simp)
                                            · rw [if_neg c65] at H
                                              have c65b0 : (((rd_T75 l0_1 x11_6).f2) == 0) = false := beq_eq_false_iff_ne.mpr c65
                                              have c65b1 : (((rd_T75 l0_1 x11_6).f2) != 0) = true := bne_iff_ne.mpr c65
                                              have H' := Aside0.mk H
                                              clear H
                                              have hcz87_0 : wr.cell? ⟨gb283, 0, none⟩ = some (.int .i64 a0_0) := (blk_cell BK283.out 0).trans rfl
                                              have hcz87_1 : wr.cell? ⟨gb283, 1, none⟩ = some (.slice A0_1 l0_1.length c0_1) := (blk_cell BK283.out 1).trans rfl
                                              have hcz87_2 : wr.cell? ⟨gb283, 2, none⟩ = some (.slice A0_2 l0_2.length c0_2) := (blk_cell BK283.out 2).trans rfl
                                              have hfz87_0 := blk_frozen BK283.out 0
                                              have hfz87_1 := blk_frozen BK283.out 1
                                              have hfz87_2 := blk_frozen BK283.out 2
                                              have p308 : 0 ≤ (x11_6 : Int) := of_decide_eq_true (by first | (with_reducible assumption) | assumption)
                                              have q308 : x11_6 < (l0_1.length : Int) := of_decide_eq_true (by first | (with_reducible assumption) | assumption)
                                              obtain ⟨ad308, e308, hx308_0, hx308_1, hx308_2⟩ := at_T75 HR0_1.out x11_6 p308 q308
                                              cases e308
                                              replace hx308_0 := (HB.out.cell (World.block_lt_of_cell? w _ hx308_0)).trans hx308_0
                                              replace hx308_1 := (HB.out.cell (World.block_lt_of_cell? w _ hx308_1)).trans hx308_1
                                              replace hx308_2 := (HB.out.cell (World.block_lt_of_cell? w _ hx308_2)).trans hx308_2
                                              replace p308 := eq_true p308
                                              replace q308 := eq_true q308
                                              go_wp2_with (first | ((with_reducible refine gate_dst (N := 12) rfl ?_); (try (refine gate_guard (by rfl) ?_; dsimp only)); refine box_event ?hg (N := 12) ?hd (cs := #[.int .i64 0, .int .i64 0, .int .u64 0]) (t := 75) ?hr ?_; (case hd => rfl); (case hg => rfl); (case hr => first | (go_simp; done) | (go_simp; rfl)); intro gb309 hg w88 hbox hb; have n0_ := Aside0.mk (Kd.S_below (by (with_reducible repeat (first | apply Kd.S_alloc | apply Kd.S_drewN | apply Kd.S_drew)); exact HO_9.out) hb); have n1_ := Aside0.mk (blk_below (g := gb283) (o := .cells #[.int .i64 a0_0, .slice (some ad308) l0_1.length c0_1, .slice A0_2 l0_2.length c0_2] 59 (0, 0)) (by (with_reducible repeat (first | refine blk_drewN ?_ _ | refine blk_drew ?_ | refine blk_alloc ?_ _)); exact BK283.out) hb); have n2_ := Aside0.mk (below_step (by repeat (first | (with_reducible first | exact HB.out | apply below_alloc | apply pw_below_drewN | apply below_drew1 | refine below_set ?_ GE283.out) | exact HB.out)) hb); have n3_ := Aside0.mk (hbox); have n4_ := Aside0.mk ((by rw [hg]; exact (below_size (by repeat (first | (with_reducible first | exact HB.out | apply below_alloc | apply pw_below_drewN | apply below_drew1 | refine below_set ?_ GE283.out) | exact HB.out))) : w.heap.size ≤ gb309)); have n5_ := Aside0.mk ((by rw [hg]; exact (below_size (by repeat (first | (with_reducible first | exact HB.out | apply below_alloc | apply pw_below_drewN | apply below_drew1 | refine below_set ?_ GE283.out) | exact HB.out))) : w.heap.size ≤ gb309)); have n6_ := Aside0.mk ((by rw [hg]; exact Nat.ne_of_lt (blk_lt (g := gb283) (o := .cells #[.int .i64 a0_0, .slice (some ad308) l0_1.length c0_1, .slice A0_2 l0_2.length c0_2] 59 (0, 0)) (by (with_reducible repeat (first | refine blk_drewN ?_ _ | refine blk_drew ?_ | refine blk_alloc ?_ _)); exact BK283.out)) : gb283 ≠ gb309)); have n7_ := Aside0.mk ((by rw [hg]; exact Nat.ne_of_gt (blk_lt (g := gb283) (o := .cells #[.int .i64 a0_0, .slice (some ad308) l0_1.length c0_1, .slice A0_2 l0_2.length c0_2] 59 (0, 0)) (by (with_reducible repeat (first | refine blk_drewN ?_ _ | refine blk_drew ?_ | refine blk_alloc ?_ _)); exact BK283.out)) : gb309 ≠ gb283)); clear HO_9; clear BK283; clear HB; have HO_9 := n0_; have BK283 := n1_; have HB := n2_; have BK309 := n3_; have GW309 := n4_; have GE309 := n5_; have NB283_309 := n6_; have NB309_283 := n7_; clear n0_ n1_ n2_ n3_ n4_ n5_ n6_ n7_; clear hb hbox hg; have hnb89 := NB309_283.out; have hnc89 := NB283_309.out; have hcz90_0 : w88.cell? ⟨gb309, 0, none⟩ = some (.int .i64 0) := (blk_cell BK309.out 0).trans rfl; have hcz90_1 : w88.cell? ⟨gb309, 1, none⟩ = some (.int .i64 0) := (blk_cell BK309.out 1).trans rfl; have hcz90_2 : w88.cell? ⟨gb309, 2, none⟩ = some (.int .u64 0) := (blk_cell BK309.out 2).trans rfl; have hfz90_0 := blk_frozen BK309.out 0; have hfz90_1 := blk_frozen BK309.out 1; have hfz90_2 := blk_frozen BK309.out 2))
                                              repeat (go_quiet (first | ((with_reducible refine gate_dst (N := 12) rfl ?_); (try (refine gate_guard (by rfl) ?_; dsimp only)); refine box_event ?hg (N := 12) ?hd (cs := #[.int .i64 0, .int .i64 0, .int .u64 0]) (t := 75) ?hr ?_; (case hd => rfl); (case hg => rfl); (case hr => first | (go_simp; done) | (go_simp; rfl)); intro gb309 hg w88 hbox hb; have n0_ := Aside0.mk (Kd.S_below (by (with_reducible repeat (first | apply Kd.S_alloc | apply Kd.S_drewN | apply Kd.S_drew)); exact HO_9.out) hb); have n1_ := Aside0.mk (blk_below (g := gb283) (o := .cells #[.int .i64 a0_0, .slice (some ad308) l0_1.length c0_1, .slice A0_2 l0_2.length c0_2] 59 (0, 0)) (by (with_reducible repeat (first | refine blk_drewN ?_ _ | refine blk_drew ?_ | refine blk_alloc ?_ _)); exact BK283.out) hb); have n2_ := Aside0.mk (below_step (by repeat (first | (with_reducible first | exact HB.out | apply below_alloc | apply pw_below_drewN | apply below_drew1 | refine below_set ?_ GE283.out) | exact HB.out)) hb); have n3_ := Aside0.mk (hbox); have n4_ := Aside0.mk ((by rw [hg]; exact (below_size (by repeat (first | (with_reducible first | exact HB.out | apply below_alloc | apply pw_below_drewN | apply below_drew1 | refine below_set ?_ GE283.out) | exact HB.out))) : w.heap.size ≤ gb309)); have n5_ := Aside0.mk ((by rw [hg]; exact (below_size (by repeat (first | (with_reducible first | exact HB.out | apply below_alloc | apply pw_below_drewN | apply below_drew1 | refine below_set ?_ GE283.out) | exact HB.out))) : w.heap.size ≤ gb309)); have n6_ := Aside0.mk ((by rw [hg]; exact Nat.ne_of_lt (blk_lt (g := gb283) (o := .cells #[.int .i64 a0_0, .slice (some ad308) l0_1.length c0_1, .slice A0_2 l0_2.length c0_2] 59 (0, 0)) (by (with_reducible repeat (first | refine blk_drewN ?_ _ | refine blk_drew ?_ | refine blk_alloc ?_ _)); exact BK283.out)) : gb283 ≠ gb309)); have n7_ := Aside0.mk ((by rw [hg]; exact Nat.ne_of_gt (blk_lt (g := gb283) (o := .cells #[.int .i64 a0_0, .slice (some ad308) l0_1.length c0_1, .slice A0_2 l0_2.length c0_2] 59 (0, 0)) (by (with_reducible repeat (first | refine blk_drewN ?_ _ | refine blk_drew ?_ | refine blk_alloc ?_ _)); exact BK283.out)) : gb309 ≠ gb283)); clear HO_9; clear BK283; clear HB; have HO_9 := n0_; have BK283 := n1_; have HB := n2_; have BK309 := n3_; have GW309 := n4_; have GE309 := n5_; have NB283_309 := n6_; have NB309_283 := n7_; clear n0_ n1_ n2_ n3_ n4_ n5_ n6_ n7_; clear hb hbox hg; have hnb89 := NB309_283.out; have hnc89 := NB283_309.out; have hcz90_0 : w88.cell? ⟨gb309, 0, none⟩ = some (.int .i64 0) := (blk_cell BK309.out 0).trans rfl; have hcz90_1 : w88.cell? ⟨gb309, 1, none⟩ = some (.int .i64 0) := (blk_cell BK309.out 1).trans rfl; have hcz90_2 : w88.cell? ⟨gb309, 2, none⟩ = some (.int .u64 0) := (blk_cell BK309.out 2).trans rfl; have hfz90_0 := blk_frozen BK309.out 0; have hfz90_1 := blk_frozen BK309.out 1; have hfz90_2 := blk_frozen BK309.out 2)); try go_wp2_with (first | ((with_reducible refine gate_dst (N := 12) rfl ?_); (try (refine gate_guard (by rfl) ?_; dsimp only)); refine box_event ?hg (N := 12) ?hd (cs := #[.int .i64 0, .int .i64 0, .int .u64 0]) (t := 75) ?hr ?_; (case hd => rfl); (case hg => rfl); (case hr => first | (go_simp; done) | (go_simp; rfl)); intro gb309 hg w88 hbox hb; have n0_ := Aside0.mk (Kd.S_below (by (with_reducible repeat (first | apply Kd.S_alloc | apply Kd.S_drewN | apply Kd.S_drew)); exact HO_9.out) hb); have n1_ := Aside0.mk (blk_below (g := gb283) (o := .cells #[.int .i64 a0_0, .slice (some ad308) l0_1.length c0_1, .slice A0_2 l0_2.length c0_2] 59 (0, 0)) (by (with_reducible repeat (first | refine blk_drewN ?_ _ | refine blk_drew ?_ | refine blk_alloc ?_ _)); exact BK283.out) hb); have n2_ := Aside0.mk (below_step (by repeat (first | (with_reducible first | exact HB.out | apply below_alloc | apply pw_below_drewN | apply below_drew1 | refine below_set ?_ GE283.out) | exact HB.out)) hb); have n3_ := Aside0.mk (hbox); have n4_ := Aside0.mk ((by rw [hg]; exact (below_size (by repeat (first | (with_reducible first | exact HB.out | apply below_alloc | apply pw_below_drewN | apply below_drew1 | refine below_set ?_ GE283.out) | exact HB.out))) : w.heap.size ≤ gb309)); have n5_ := Aside0.mk ((by rw [hg]; exact (below_size (by repeat (first | (with_reducible first | exact HB.out | apply below_alloc | apply pw_below_drewN | apply below_drew1 | refine below_set ?_ GE283.out) | exact HB.out))) : w.heap.size ≤ gb309)); have n6_ := Aside0.mk ((by rw [hg]; exact Nat.ne_of_lt (blk_lt (g := gb283) (o := .cells #[.int .i64 a0_0, .slice (some ad308) l0_1.length c0_1, .slice A0_2 l0_2.length c0_2] 59 (0, 0)) (by (with_reducible repeat (first | refine blk_drewN ?_ _ | refine blk_drew ?_ | refine blk_alloc ?_ _)); exact BK283.out)) : gb283 ≠ gb309)); have n7_ := Aside0.mk ((by rw [hg]; exact Nat.ne_of_gt (blk_lt (g := gb283) (o := .cells #[.int .i64 a0_0, .slice (some ad308) l0_1.length c0_1, .slice A0_2 l0_2.length c0_2] 59 (0, 0)) (by (with_reducible repeat (first | refine blk_drewN ?_ _ | refine blk_drew ?_ | refine blk_alloc ?_ _)); exact BK283.out)) : gb309 ≠ gb283)); clear HO_9; clear BK283; clear HB; have HO_9 := n0_; have BK283 := n1_; have HB := n2_; have BK309 := n3_; have GW309 := n4_; have GE309 := n5_; have NB283_309 := n6_; have NB309_283 := n7_; clear n0_ n1_ n2_ n3_ n4_ n5_ n6_ n7_; clear hb hbox hg; have hnb89 := NB309_283.out; have hnc89 := NB283_309.out; have hcz90_0 : w88.cell? ⟨gb309, 0, none⟩ = some (.int .i64 0) := (blk_cell BK309.out 0).trans rfl; have hcz90_1 : w88.cell? ⟨gb309, 1, none⟩ = some (.int .i64 0) := (blk_cell BK309.out 1).trans rfl; have hcz90_2 : w88.cell? ⟨gb309, 2, none⟩ = some (.int .u64 0) := (blk_cell BK309.out 2).trans rfl; have hfz90_0 := blk_frozen BK309.out 0; have hfz90_1 := blk_frozen BK309.out 1; have hfz90_2 := blk_frozen BK309.out 2)))
                                              go_roundg k6
                                              case measure => have := HJ1.out; have := HK2.out; have := HJ30.out; have := HK4.out; have := HK5.out; have := HK6.out; omega
                                              case rel => exact ⟨(wrap64 (x11_6 + 1)), (by first | rfl | (simp; done) | (simp [*]; done)), H', ⟨by have := HJ1.out; have := HK2.out; have := HJ30.out; have := HK4.out; have := HK5.out; have := HK6.out; omega⟩, ⟨by (with_reducible repeat (first | apply Kd.S_alloc | apply Kd.S_drewN | apply Kd.S_drew)); exact Kd.S_mono (Kd.S_far (p := ⟨gb309, 2, none⟩) (Kd.S_far (p := ⟨gb309, 1, none⟩) (Kd.S_far (p := ⟨gb309, 0, none⟩) (Kd.S_types HO_9.out BK309.out (by decide)) (fun _ hk => hk.2) (.int .i64 ((rd_T75 l0_1 x11_6).f0))) (fun _ hk => hk.2) (.int .i64 ((rd_T75 l0_1 x11_6).f1))) (fun _ hk => hk.2) (.int .u64 ((rd_T75 l0_1 x11_6).f2))) (fun _ hk => trivial)⟩, ⟨by (with_reducible repeat (first | refine blk_drewN ?_ _ | refine blk_drew ?_ | refine blk_alloc ?_ _)); refine blk_far ?_ NB283_309.out _; (with_reducible repeat (first | refine blk_drewN ?_ _ | refine blk_drew ?_ | refine blk_alloc ?_ _)); refine blk_far ?_ NB283_309.out _; (with_reducible repeat (first | refine blk_drewN ?_ _ | refine blk_drew ?_ | refine blk_alloc ?_ _)); refine blk_far ?_ NB283_309.out _; (with_reducible repeat (first | refine blk_drewN ?_ _ | refine blk_drew ?_ | refine blk_alloc ?_ _)); exact BK283.out⟩, ⟨by repeat (first | (with_reducible first | exact HB.out | apply below_alloc | apply pw_below_drewN | apply below_drew1 | refine below_set ?_ GE283.out | refine below_set ?_ GE309.out) | exact HB.out)⟩⟩
                                          · rw [if_neg c64] at H
                                            have c64b0 : (((rd_T75 l0_1 x11_6).f0) == x10_5) = false := beq_eq_false_iff_ne.mpr c64
                                            have c64b1 : (((rd_T75 l0_1 x11_6).f0) != x10_5) = true := bne_iff_ne.mpr c64
                                            have H' := Aside0.mk H
                                            clear H
                                            have hcz91_0 : wr.cell? ⟨gb283, 0, none⟩ = some (.int .i64 a0_0) := (blk_cell BK283.out 0).trans rfl
                                            have hcz91_1 : wr.cell? ⟨gb283, 1, none⟩ = some (.slice A0_1 l0_1.length c0_1) := (blk_cell BK283.out 1).trans rfl
                                            have hcz91_2 : wr.cell? ⟨gb283, 2, none⟩ = some (.slice A0_2 l0_2.length c0_2) := (blk_cell BK283.out 2).trans rfl
                                            have hfz91_0 := blk_frozen BK283.out 0
                                            have hfz91_1 := blk_frozen BK283.out 1
                                            have hfz91_2 := blk_frozen BK283.out 2
                                            have p308 : 0 ≤ (x11_6 : Int) := of_decide_eq_true (by first | (with_reducible assumption) | assumption)
                                            have q308 : x11_6 < (l0_1.length : Int) := of_decide_eq_true (by first | (with_reducible assumption) | assumption)
                                            obtain ⟨ad308, e308, hx308_0, hx308_1, hx308_2⟩ := at_T75 HR0_1.out x11_6 p308 q308
                                            cases e308
                                            replace hx308_0 := (HB.out.cell (World.block_lt_of_cell? w _ hx308_0)).trans hx308_0
                                            replace hx308_1 := (HB.out.cell (World.block_lt_of_cell? w _ hx308_1)).trans hx308_1
                                            replace hx308_2 := (HB.out.cell (World.block_lt_of_cell? w _ hx308_2)).trans hx308_2
                                            replace p308 := eq_true p308
                                            replace q308 := eq_true q308
                                            go_wp2_with (first | ((with_reducible refine gate_dst (N := 12) rfl ?_); (try (refine gate_guard (by rfl) ?_; dsimp only)); refine box_event ?hg (N := 12) ?hd (cs := #[.int .i64 0, .int .i64 0, .int .u64 0]) (t := 75) ?hr ?_; (case hd => rfl); (case hg => rfl); (case hr => first | (go_simp; done) | (go_simp; rfl)); intro gb309 hg w92 hbox hb; have n0_ := Aside0.mk (Kd.S_below (by (with_reducible repeat (first | apply Kd.S_alloc | apply Kd.S_drewN | apply Kd.S_drew)); exact HO_9.out) hb); have n1_ := Aside0.mk (blk_below (g := gb283) (o := .cells #[.int .i64 a0_0, .slice (some ad308) l0_1.length c0_1, .slice A0_2 l0_2.length c0_2] 59 (0, 0)) (by (with_reducible repeat (first | refine blk_drewN ?_ _ | refine blk_drew ?_ | refine blk_alloc ?_ _)); exact BK283.out) hb); have n2_ := Aside0.mk (below_step (by repeat (first | (with_reducible first | exact HB.out | apply below_alloc | apply pw_below_drewN | apply below_drew1 | refine below_set ?_ GE283.out) | exact HB.out)) hb); have n3_ := Aside0.mk (hbox); have n4_ := Aside0.mk ((by rw [hg]; exact (below_size (by repeat (first | (with_reducible first | exact HB.out | apply below_alloc | apply pw_below_drewN | apply below_drew1 | refine below_set ?_ GE283.out) | exact HB.out))) : w.heap.size ≤ gb309)); have n5_ := Aside0.mk ((by rw [hg]; exact (below_size (by repeat (first | (with_reducible first | exact HB.out | apply below_alloc | apply pw_below_drewN | apply below_drew1 | refine below_set ?_ GE283.out) | exact HB.out))) : w.heap.size ≤ gb309)); have n6_ := Aside0.mk ((by rw [hg]; exact Nat.ne_of_lt (blk_lt (g := gb283) (o := .cells #[.int .i64 a0_0, .slice (some ad308) l0_1.length c0_1, .slice A0_2 l0_2.length c0_2] 59 (0, 0)) (by (with_reducible repeat (first | refine blk_drewN ?_ _ | refine blk_drew ?_ | refine blk_alloc ?_ _)); exact BK283.out)) : gb283 ≠ gb309)); have n7_ := Aside0.mk ((by rw [hg]; exact Nat.ne_of_gt (blk_lt (g := gb283) (o := .cells #[.int .i64 a0_0, .slice (some ad308) l0_1.length c0_1, .slice A0_2 l0_2.length c0_2] 59 (0, 0)) (by (with_reducible repeat (first | refine blk_drewN ?_ _ | refine blk_drew ?_ | refine blk_alloc ?_ _)); exact BK283.out)) : gb309 ≠ gb283)); clear HO_9; clear BK283; clear HB; have HO_9 := n0_; have BK283 := n1_; have HB := n2_; have BK309 := n3_; have GW309 := n4_; have GE309 := n5_; have NB283_309 := n6_; have NB309_283 := n7_; clear n0_ n1_ n2_ n3_ n4_ n5_ n6_ n7_; clear hb hbox hg; have hnb93 := NB309_283.out; have hnc93 := NB283_309.out; have hcz94_0 : w92.cell? ⟨gb309, 0, none⟩ = some (.int .i64 0) := (blk_cell BK309.out 0).trans rfl; have hcz94_1 : w92.cell? ⟨gb309, 1, none⟩ = some (.int .i64 0) := (blk_cell BK309.out 1).trans rfl; have hcz94_2 : w92.cell? ⟨gb309, 2, none⟩ = some (.int .u64 0) := (blk_cell BK309.out 2).trans rfl; have hfz94_0 := blk_frozen BK309.out 0; have hfz94_1 := blk_frozen BK309.out 1; have hfz94_2 := blk_frozen BK309.out 2))
                                            repeat (go_quiet (first | ((with_reducible refine gate_dst (N := 12) rfl ?_); (try (refine gate_guard (by rfl) ?_; dsimp only)); refine box_event ?hg (N := 12) ?hd (cs := #[.int .i64 0, .int .i64 0, .int .u64 0]) (t := 75) ?hr ?_; (case hd => rfl); (case hg => rfl); (case hr => first | (go_simp; done) | (go_simp; rfl)); intro gb309 hg w92 hbox hb; have n0_ := Aside0.mk (Kd.S_below (by (with_reducible repeat (first | apply Kd.S_alloc | apply Kd.S_drewN | apply Kd.S_drew)); exact HO_9.out) hb); have n1_ := Aside0.mk (blk_below (g := gb283) (o := .cells #[.int .i64 a0_0, .slice (some ad308) l0_1.length c0_1, .slice A0_2 l0_2.length c0_2] 59 (0, 0)) (by (with_reducible repeat (first | refine blk_drewN ?_ _ | refine blk_drew ?_ | refine blk_alloc ?_ _)); exact BK283.out) hb); have n2_ := Aside0.mk (below_step (by repeat (first | (with_reducible first | exact HB.out | apply below_alloc | apply pw_below_drewN | apply below_drew1 | refine below_set ?_ GE283.out) | exact HB.out)) hb); have n3_ := Aside0.mk (hbox); have n4_ := Aside0.mk ((by rw [hg]; exact (below_size (by repeat (first | (with_reducible first | exact HB.out | apply below_alloc | apply pw_below_drewN | apply below_drew1 | refine below_set ?_ GE283.out) | exact HB.out))) : w.heap.size ≤ gb309)); have n5_ := Aside0.mk ((by rw [hg]; exact (below_size (by repeat (first | (with_reducible first | exact HB.out | apply below_alloc | apply pw_below_drewN | apply below_drew1 | refine below_set ?_ GE283.out) | exact HB.out))) : w.heap.size ≤ gb309)); have n6_ := Aside0.mk ((by rw [hg]; exact Nat.ne_of_lt (blk_lt (g := gb283) (o := .cells #[.int .i64 a0_0, .slice (some ad308) l0_1.length c0_1, .slice A0_2 l0_2.length c0_2] 59 (0, 0)) (by (with_reducible repeat (first | refine blk_drewN ?_ _ | refine blk_drew ?_ | refine blk_alloc ?_ _)); exact BK283.out)) : gb283 ≠ gb309)); have n7_ := Aside0.mk ((by rw [hg]; exact Nat.ne_of_gt (blk_lt (g := gb283) (o := .cells #[.int .i64 a0_0, .slice (some ad308) l0_1.length c0_1, .slice A0_2 l0_2.length c0_2] 59 (0, 0)) (by (with_reducible repeat (first | refine blk_drewN ?_ _ | refine blk_drew ?_ | refine blk_alloc ?_ _)); exact BK283.out)) : gb309 ≠ gb283)); clear HO_9; clear BK283; clear HB; have HO_9 := n0_; have BK283 := n1_; have HB := n2_; have BK309 := n3_; have GW309 := n4_; have GE309 := n5_; have NB283_309 := n6_; have NB309_283 := n7_; clear n0_ n1_ n2_ n3_ n4_ n5_ n6_ n7_; clear hb hbox hg; have hnb93 := NB309_283.out; have hnc93 := NB283_309.out; have hcz94_0 : w92.cell? ⟨gb309, 0, none⟩ = some (.int .i64 0) := (blk_cell BK309.out 0).trans rfl; have hcz94_1 : w92.cell? ⟨gb309, 1, none⟩ = some (.int .i64 0) := (blk_cell BK309.out 1).trans rfl; have hcz94_2 : w92.cell? ⟨gb309, 2, none⟩ = some (.int .u64 0) := (blk_cell BK309.out 2).trans rfl; have hfz94_0 := blk_frozen BK309.out 0; have hfz94_1 := blk_frozen BK309.out 1; have hfz94_2 := blk_frozen BK309.out 2)); try go_wp2_with (first | ((with_reducible refine gate_dst (N := 12) rfl ?_); (try (refine gate_guard (by rfl) ?_; dsimp only)); refine box_event ?hg (N := 12) ?hd (cs := #[.int .i64 0, .int .i64 0, .int .u64 0]) (t := 75) ?hr ?_; (case hd => rfl); (case hg => rfl); (case hr => first | (go_simp; done) | (go_simp; rfl)); intro gb309 hg w92 hbox hb; have n0_ := Aside0.mk (Kd.S_below (by (with_reducible repeat (first | apply Kd.S_alloc | apply Kd.S_drewN | apply Kd.S_drew)); exact HO_9.out) hb); have n1_ := Aside0.mk (blk_below (g := gb283) (o := .cells #[.int .i64 a0_0, .slice (some ad308) l0_1.length c0_1, .slice A0_2 l0_2.length c0_2] 59 (0, 0)) (by (with_reducible repeat (first | refine blk_drewN ?_ _ | refine blk_drew ?_ | refine blk_alloc ?_ _)); exact BK283.out) hb); have n2_ := Aside0.mk (below_step (by repeat (first | (with_reducible first | exact HB.out | apply below_alloc | apply pw_below_drewN | apply below_drew1 | refine below_set ?_ GE283.out) | exact HB.out)) hb); have n3_ := Aside0.mk (hbox); have n4_ := Aside0.mk ((by rw [hg]; exact (below_size (by repeat (first | (with_reducible first | exact HB.out | apply below_alloc | apply pw_below_drewN | apply below_drew1 | refine below_set ?_ GE283.out) | exact HB.out))) : w.heap.size ≤ gb309)); have n5_ := Aside0.mk ((by rw [hg]; exact (below_size (by repeat (first | (with_reducible first | exact HB.out | apply below_alloc | apply pw_below_drewN | apply below_drew1 | refine below_set ?_ GE283.out) | exact HB.out))) : w.heap.size ≤ gb309)); have n6_ := Aside0.mk ((by rw [hg]; exact Nat.ne_of_lt (blk_lt (g := gb283) (o := .cells #[.int .i64 a0_0, .slice (some ad308) l0_1.length c0_1, .slice A0_2 l0_2.length c0_2] 59 (0, 0)) (by (with_reducible repeat (first | refine blk_drewN ?_ _ | refine blk_drew ?_ | refine blk_alloc ?_ _)); exact BK283.out)) : gb283 ≠ gb309)); have n7_ := Aside0.mk ((by rw [hg]; exact Nat.ne_of_gt (blk_lt (g := gb283) (o := .cells #[.int .i64 a0_0, .slice (some ad308) l0_1.length c0_1, .slice A0_2 l0_2.length c0_2] 59 (0, 0)) (by (with_reducible repeat (first | refine blk_drewN ?_ _ | refine blk_drew ?_ | refine blk_alloc ?_ _)); exact BK283.out)) : gb309 ≠ gb283)); clear HO_9; clear BK283; clear HB; have HO_9 := n0_; have BK283 := n1_; have HB := n2_; have BK309 := n3_; have GW309 := n4_; have GE309 := n5_; have NB283_309 := n6_; have NB309_283 := n7_; clear n0_ n1_ n2_ n3_ n4_ n5_ n6_ n7_; clear hb hbox hg; have hnb93 := NB309_283.out; have hnc93 := NB283_309.out; have hcz94_0 : w92.cell? ⟨gb309, 0, none⟩ = some (.int .i64 0) := (blk_cell BK309.out 0).trans rfl; have hcz94_1 : w92.cell? ⟨gb309, 1, none⟩ = some (.int .i64 0) := (blk_cell BK309.out 1).trans rfl; have hcz94_2 : w92.cell? ⟨gb309, 2, none⟩ = some (.int .u64 0) := (blk_cell BK309.out 2).trans rfl; have hfz94_0 := blk_frozen BK309.out 0; have hfz94_1 := blk_frozen BK309.out 1; have hfz94_2 := blk_frozen BK309.out 2)))
                                            go_roundg k6
                                            case measure => have := HJ1.out; have := HK2.out; have := HJ30.out; have := HK4.out; have := HK5.out; have := HK6.out; omega
                                            case rel => exact ⟨(wrap64 (x11_6 + 1)), (by first | rfl | (simp; done) | (simp [*]; done)), H', ⟨by have := HJ1.out; have := HK2.out; have := HJ30.out; have := HK4.out; have := HK5.out; have := HK6.out; omega⟩, ⟨by (with_reducible repeat (first | apply Kd.S_alloc | apply Kd.S_drewN | apply Kd.S_drew)); exact Kd.S_mono (Kd.S_far (p := ⟨gb309, 2, none⟩) (Kd.S_far (p := ⟨gb309, 1, none⟩) (Kd.S_far (p := ⟨gb309, 0, none⟩) (Kd.S_types HO_9.out BK309.out (by decide)) (fun _ hk => hk.2) (.int .i64 ((rd_T75 l0_1 x11_6).f0))) (fun _ hk => hk.2) (.int .i64 ((rd_T75 l0_1 x11_6).f1))) (fun _ hk => hk.2) (.int .u64 ((rd_T75 l0_1 x11_6).f2))) (fun _ hk => trivial)⟩, ⟨by (with_reducible repeat (first | refine blk_drewN ?_ _ | refine blk_drew ?_ | refine blk_alloc ?_ _)); refine blk_far ?_ NB283_309.out _; (with_reducible repeat (first | refine blk_drewN ?_ _ | refine blk_drew ?_ | refine blk_alloc ?_ _)); refine blk_far ?_ NB283_309.out _; (with_reducible repeat (first | refine blk_drewN ?_ _ | refine blk_drew ?_ | refine blk_alloc ?_ _)); refine blk_far ?_ NB283_309.out _; (with_reducible repeat (first | refine blk_drewN ?_ _ | refine blk_drew ?_ | refine blk_alloc ?_ _)); exact BK283.out⟩, ⟨by repeat (first | (with_reducible first | exact HB.out | apply below_alloc | apply pw_below_drewN | apply below_drew1 | refine below_set ?_ GE283.out | refine below_set ?_ GE309.out) | exact HB.out)⟩⟩
                                        · rw [if_neg c63] at H
                                          exact absurd H (by simp)
                                      · rw [if_neg c62] at H
                                        have c62b0 : decide (x11_6 < (l0_1.length : Int)) = false := decide_eq_false c62
                                        clear c62
                                        have H' := Aside0.mk H
                                        clear H
                                        have hcz95_0 : wr.cell? ⟨gb283, 0, none⟩ = some (.int .i64 a0_0) := (blk_cell BK283.out 0).trans rfl
                                        have hcz95_1 : wr.cell? ⟨gb283, 1, none⟩ = some (.slice A0_1 l0_1.length c0_1) := (blk_cell BK283.out 1).trans rfl
                                        have hcz95_2 : wr.cell? ⟨gb283, 2, none⟩ = some (.slice A0_2 l0_2.length c0_2) := (blk_cell BK283.out 2).trans rfl
                                        have hfz95_0 := blk_frozen BK283.out 0
                                        have hfz95_1 := blk_frozen BK283.out 1
                                        have hfz95_2 := blk_frozen BK283.out 2
                                        go_wp2
                                        repeat (go_quiet (fail); try go_wp2)
                                        go_roundg k6
                                        case measure => have := HJ1.out; have := HK2.out; have := HJ30.out; have := HK4.out; have := HK5.out; have := HK6.out; omega
                                        case rel => exact ⟨(wrap64 (x10_5 + 1)), (by first | rfl | (simp; done) | (simp [*]; done)), H', ⟨by have := HJ1.out; have := HK2.out; have := HJ30.out; have := HK4.out; have := HK5.out; have := HK6.out; omega⟩, ⟨by (with_reducible repeat (first | apply Kd.S_alloc | apply Kd.S_drewN | apply Kd.S_drew)); exact HO_9.out⟩, ⟨by (with_reducible repeat (first | refine blk_drewN ?_ _ | refine blk_drew ?_ | refine blk_alloc ?_ _)); exact BK283.out⟩, ⟨by repeat (first | (with_reducible first | exact HB.out | apply below_alloc | apply pw_below_drewN | apply below_drew1 | refine below_set ?_ GE283.out) | exact HB.out)⟩⟩
                                · rw [if_neg c60] at H
                                  have c60b0 : decide (x10_5 < a0_0) = false := decide_eq_false c60
                                  clear c60
                                  simp only [Option.some.injEq, Prod.mk.injEq] at H
                                  obtain ⟨rfl, rfl⟩ := H
                                  have hcz96_0 : wr.cell? ⟨gb283, 0, none⟩ = some (.int .i64 a0_0) := (blk_cell BK283.out 0).trans rfl
                                  have hcz96_1 : wr.cell? ⟨gb283, 1, none⟩ = some (.slice A0_1 l0_1.length c0_1) := (blk_cell BK283.out 1).trans rfl
                                  have hcz96_2 : wr.cell? ⟨gb283, 2, none⟩ = some (.slice A0_2 l0_2.length c0_2) := (blk_cell BK283.out 2).trans rfl
                                  have hfz96_0 := blk_frozen BK283.out 0
                                  have hfz96_1 := blk_frozen BK283.out 1
                                  have hfz96_2 := blk_frozen BK283.out 2
                                  go_wp2
                                  repeat (go_quiet (fail); try go_wp2)
                                  go_ret2
                                  exact ⟨_, by first | rfl | (simp [errW_none, errW_some] <;> rfl) | (simp [*, errW_none, errW_some] <;> rfl), by first | exact Kd.R_nil _ _ _ _ _ | exact Kd.N_nil _ _ _ _ _ | exact Kd.V_nil _ _ _ _ _ | exact Kd.Q_nil _ _ _ _ _ | exact Kd.S_nil _ _ _ _ _, by repeat (first | (with_reducible first | exact HB.out | apply below_alloc | apply pw_below_drewN | apply below_drew1 | refine below_set ?_ GE283.out) | exact HB.out)⟩
end Go.Proofs.YtgeldmhgbnamcaaDoor.Q
end
