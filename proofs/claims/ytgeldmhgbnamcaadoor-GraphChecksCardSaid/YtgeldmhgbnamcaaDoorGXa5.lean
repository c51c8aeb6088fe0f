/- Walks and laws of several statements of this seat, joined into one text; no condition. -/
import Derived.Test.YtgeldmhgbnamcaaDoorProg
import Derived.Below
import Derived.Deep.Draws
import Derived.Deep.AppendLies
import Derived.Maps.AppendAt
import Derived.OwnWalk
import Derived.Laws.BytesArg
import Derived.Laws.MakeOwn
import Derived.Laws.OwnMore
import Derived.Deep.OwnRows
import Derived.Tactics
import Derived.Lib.ConvBytes
import Derived.Laws.Slices
import Derived.WalkKit
import Derived.KernelRfl
import Derived.RowKit3
import Derived.Deep.LoopGhost
import Derived.Deep.QuietTactic
import Derived.BigQuiet
import Derived.WideLaws
import Derived.Deep.DeepCutAuto
import Derived.Deep.CutBlock
import Derived.Deep.RegionHeld3
import Derived.Laws.Rows
import Derived.Lib.AppendStr
import Derived.ArgAppend
import Derived.Laws.IdiomCopy
import Derived.OrdersHeld
import Derived.Laws.BitsLemmas
import Derived.RowKit
import Derived.Laws.StructEq
import Derived.Test.YtgeldmhgbnamcaaDoorGXa0
import Derived.Test.YtgeldmhgbnamcaaDoorGXa1
import Derived.Test.YtgeldmhgbnamcaaDoorGXa2
import Derived.Test.YtgeldmhgbnamcaaDoorGXa4
section
namespace Go.Proofs.YtgeldmhgbnamcaaDoor.Q
open Go.RowKit Go.Proofs.YtgeldmhgbnamcaaDoorW.PrintWords Go.Proofs.YtgeldmhgbnamcaaDoorW.PrintLast Go.Proofs.YtgeldmhgbnamcaaDoorW.PrintMore
attribute [local go_sem] max2_int min2_int max_two min_two max_three min_three max_four min_four
set_option linter.unusedVariables false
theorem R_slice {α : Type} {d : Kd α} {e : Nat} {w : World} {base : Nat} {ok : Nat → Prop} {v : Value} {xs : List α} (h : d.R e w base ok v xs) : ∃ p n c, v = .slice p n c := by
  obtain ⟨_, inner, ho, _⟩ := h
  rcases ho.2 with ⟨h, _⟩ | ⟨g, c, _, h, _⟩
  · exact ⟨_, _, _, h⟩
  · exact ⟨_, _, _, h⟩
set_option linter.unusedSimpArgs false
mutual
def marchlandref05_closed.l0 : Nat → List (List Int) → Int → Int → List (S75) → List Int → Option ((List (List Int)))
  | 0, _, _, _, _, _ => none
  | k + 1, x3, x4, x254000, x254001, x254002 => if x4 < x254000 then (if 0 ≤ x254000 then (if (x254000 : Int).toNat ≤ 35184372088832 then (if 0 ≤ x4 then (if x4 < (x3.length : Int) then (marchlandref05_closed.l1 k (x3.set (x4 : Int).toNat (List.replicate (x254000 : Int).toNat 0)) x4 0 x254000 x254001 x254002) else (none)) else (none)) else (none)) else (none)) else (marchlandref05_closed.l2 k x3 0 x254000 x254001 x254002)
def marchlandref05_closed.l1 : Nat → List (List Int) → Int → Int → Int → List (S75) → List Int → Option ((List (List Int)))
  | 0, _, _, _, _, _, _ => none
  | k + 1, x3, x4, x5, x254000, x254001, x254002 => if x5 < x254000 then (if 0 ≤ x4 then (if x4 < (x3.length : Int) then (if 0 ≤ x5 then (if x5 < ((rd_L8 x3 x4).length : Int) then ((some (x3.set (x4 : Int).toNat ((rd_L8 x3 x4).set (x5 : Int).toNat 18446744073709551615) : List (List Int))).bind fun y264 => (if x4 = x5 then (if x5 < ((rd_L8 y264 x4).length : Int) then (marchlandref05_closed.l1 k (y264.set (x4 : Int).toNat ((rd_L8 y264 x4).set (x5 : Int).toNat 0)) x4 (wrap64 (x5 + 1)) x254000 x254001 x254002) else (none)) else (marchlandref05_closed.l1 k y264 x4 (wrap64 (x5 + 1)) x254000 x254001 x254002))) else (none)) else (none)) else (none)) else (none)) else (marchlandref05_closed.l0 k x3 (wrap64 (x4 + 1)) x254000 x254001 x254002)
def marchlandref05_closed.l2 : Nat → List (List Int) → Int → Int → List (S75) → List Int → Option ((List (List Int)))
  | 0, _, _, _, _, _ => none
  | k + 1, x3, x6, x254000, x254001, x254002 => if x6 < x254000 then (marchlandref05_closed.l3 k x3 x6 0 x254000 x254001 x254002) else (some x3)
def marchlandref05_closed.l3 : Nat → List (List Int) → Int → Int → Int → List (S75) → List Int → Option ((List (List Int)))
  | 0, _, _, _, _, _, _ => none
  | k + 1, x3, x6, x7, x254000, x254001, x254002 => if x7 < x254000 then (marchlandref05_closed.l4 k x3 x6 x7 0 x254000 x254001 x254002) else (marchlandref05_closed.l2 k x3 (wrap64 (x6 + 1)) x254000 x254001 x254002)
def marchlandref05_closed.l4 : Nat → List (List Int) → Int → Int → Int → Int → List (S75) → List Int → Option ((List (List Int)))
  | 0, _, _, _, _, _, _, _ => none
  | k + 1, x3, x6, x7, x8, x254000, x254001, x254002 => if x8 < (x254001.length : Int) then (if 0 ≤ x8 then (if 0 ≤ x7 then (if x7 < (x3.length : Int) then (if 0 ≤ ((rd_T75 x254001 x8).f0) then (if ((rd_T75 x254001 x8).f0) < ((rd_L8 x3 x7).length : Int) then ((marchlandref01_Plus.f (rd (rd_L8 x3 x7) ((rd_T75 x254001 x8).f0)) ((rd_T75 x254001 x8).f2)).bind fun t273 => (if 0 ≤ ((rd_T75 x254001 x8).f1) then (if ((rd_T75 x254001 x8).f1) < ((rd_L8 x3 x7).length : Int) then (if t273 < (rd (rd_L8 x3 x7) ((rd_T75 x254001 x8).f1)) then (marchlandref05_closed.l4 k (x3.set (x7 : Int).toNat ((rd_L8 x3 x7).set (((rd_T75 x254001 x8).f1) : Int).toNat t273)) x6 x7 (wrap64 (x8 + 1)) x254000 x254001 x254002) else (marchlandref05_closed.l4 k x3 x6 x7 (wrap64 (x8 + 1)) x254000 x254001 x254002)) else (none)) else (none))) else (none)) else (none)) else (none)) else (none)) else (none)) else (marchlandref05_closed.l3 k x3 x6 (wrap64 (x7 + 1)) x254000 x254001 x254002)
end
def marchlandref05_closed.f (k : Nat) (a0_0 : Int) (l0_1 : List (S75)) (l0_2 : List Int) : Option ((List (List Int))) := if 0 ≤ a0_0 then (if (a0_0 : Int).toNat ≤ 11728124029610 then (marchlandref05_closed.l0 k (List.replicate (a0_0 : Int).toNat []) 0 a0_0 l0_1 l0_2) else (none)) else (none)
def marchlandref05_closed.T22 : Bool × List (List Nat × List Nat) := (true, [([], []), ([], []), ([0, 1], [0, 1]), ([2], [2]), ([], []), ([4], [4]), ([3, 5], [3, 5]), ([6], [6]), ([], []), ([8], [8]), ([7, 9], [7, 9]), ([10, 10, 0, 1, 2, 3, 4, 5, 6, 7, 8, 9, 10], [10])])
def marchlandref05_closed.B22 : List Nat := [0, 0, 3, 7, 0, 16, 63, 127, 0, 256, 1023, 2047]
theorem marchlandref05_closed.tab22 : rtab .any (opsOf Tryd.f71 22) = marchlandref05_closed.T22 := by kernel_rfl
theorem marchlandref05_closed.bits22 : waitsOk marchlandref05_closed.T22.2 marchlandref05_closed.B22 = true := by kernel_rfl
def marchlandref05_closed.T23 : Bool × List (List Nat × List Nat) := (true, [([], []), ([], []), ([], []), ([1, 2], [1, 2]), ([3], [3]), ([], []), ([5], [5]), ([4, 6], [4, 6]), ([7], [7]), ([0, 8], [0, 8])])
def marchlandref05_closed.B23 : List Nat := [0, 0, 0, 6, 14, 0, 32, 126, 254, 511]
theorem marchlandref05_closed.tab23 : rtab .any (opsOf Tryd.f71 23) = marchlandref05_closed.T23 := by kernel_rfl
theorem marchlandref05_closed.bits23 : waitsOk marchlandref05_closed.T23.2 marchlandref05_closed.B23 = true := by kernel_rfl
def marchlandref05_closed.T24 : Bool × List (List Nat × List Nat) := (true, [([], []), ([], []), ([0, 1], [0, 1]), ([2], [2]), ([], []), ([4], [4]), ([], []), ([3, 5, 0, 1, 2, 3, 4, 5, 6], [3, 5]), ([7, 6, 0, 1, 2, 3, 4, 5, 6], [6, 7])])
def marchlandref05_closed.B24 : List Nat := [0, 0, 3, 7, 0, 16, 0, 127, 255]
theorem marchlandref05_closed.tab24 : rtab .any (opsOf Tryd.f71 24) = marchlandref05_closed.T24 := by kernel_rfl
theorem marchlandref05_closed.bits24 : waitsOk marchlandref05_closed.T24.2 marchlandref05_closed.B24 = true := by kernel_rfl
set_option maxHeartbeats 8000000 in
set_option maxRecDepth 100000 in
theorem marchlandref05_closed.calls (k : Nat) (a0_0 : Int) (A0_1 : Option Addr) (c0_1 : Nat) (l0_1 : List (S75)) (A0_2 : Option Addr) (c0_2 : Nat) (l0_2 : List Int) (r : List (List Int)) (w : World) (hr0_1 : Kd.C k75 w A0_1 l0_1.length l0_1) (hc0_1 : l0_1.length ≤ c0_1) (hr0_2 : Kd.C (Kd.int .i64) w A0_2 l0_2.length l0_2) (hc0_2 : l0_2.length ≤ c0_2) (h : marchlandref05_closed.f k a0_0 l0_1 l0_2 = some r) :
    Calls Tryd.prog 71 #[.agg #[.int .i64 a0_0, .slice A0_1 l0_1.length c0_1, .slice A0_2 l0_2.length c0_2]] w fun e w' => ∃ v0_ : Value, e = .returned (v0_) ∧ Kd.S (Kd.slice 22 (Kd.int .u64)) 73 w' w.heap.size (fun _ => True) v0_ r ∧ Below w.heap.size w w' := by
  have hu59 := Tryd.underlying59
  have hu75 := Tryd.underlying75
  have HR0_1 := Aside0.mk hr0_1
  have HC0_1 := Aside0.mk hc0_1
  clear hr0_1 hc0_1
  have HR0_2 := Aside0.mk hr0_2
  have HC0_2 := Aside0.mk hc0_2
  clear hr0_2 hc0_2
  have HB := Aside0.mk (Below.refl w.heap.size w)
  have H : (if 0 ≤ a0_0 then (if (a0_0 : Int).toNat ≤ 11728124029610 then (marchlandref05_closed.l0 k (List.replicate (a0_0 : Int).toNat []) 0 a0_0 l0_1 l0_2) else (none)) else (none)) = some r := h
  clear h
  by_cases c2 : 0 ≤ a0_0
  · rw [if_pos c2] at H
    have c2b0 := eq_true c2
    have c2b1 : decide (0 ≤ a0_0) = true := decide_eq_true c2
    clear c2
    by_cases c3 : (a0_0 : Int).toNat ≤ 11728124029610
    · rw [if_pos c3] at H
      have c3b0 := eq_true c3
      have c3b1 : decide ((a0_0 : Int).toNat ≤ 11728124029610) = true := decide_eq_true c3
      clear c3
      obtain ⟨y254, hy254⟩ : ∃ y_ : List (List Int), y_ = (List.replicate (a0_0 : Int).toNat []) := ⟨_, rfl⟩
      replace H : (marchlandref05_closed.l0 k y254 0 a0_0 l0_1 l0_2) = some r := by first | (rw [hy254]; with_reducible exact H) | (have H2_ := (Option.bind_some _ _).symm.trans H; rw [hy254]; with_reducible exact H2_) | (have H2_ := (Option.bind_some _ _).symm.trans H; with_reducible exact H2_) | with_reducible exact H | (rw [hy254]; exact H) | exact H
      have Ny254 := Aside0.mk hy254
      clear hy254
      have H' := Aside0.mk H
      clear H
      go_enter Tryd.func71, Tryd.ntmps71
      go_wp2_with (first | ((with_reducible refine gate_dst (N := 1) rfl ?_); refine box_event ?hg (N := 1) ?hd (cs := #[.int .i64 a0_0, .slice A0_1 l0_1.length c0_1, .slice A0_2 l0_2.length c0_2]) (t := 59) ?hr ?_; (case hd => rfl); (case hg => rfl); (case hr => first | (go_simp; done) | (go_simp; rfl)); intro gb253 hg w4 hbox hb; have n0_ := Aside0.mk (below_step (by repeat (first | (with_reducible first | exact HB.out | apply below_alloc | apply pw_below_drewN | apply below_drew1) | exact HB.out)) hb); have n1_ := Aside0.mk (hbox); have n2_ := Aside0.mk ((by rw [hg]; exact (below_size (by repeat (first | (with_reducible first | exact HB.out | apply below_alloc | apply pw_below_drewN | apply below_drew1) | exact HB.out))) : w.heap.size ≤ gb253)); have n3_ := Aside0.mk ((by rw [hg]; exact (below_size (by repeat (first | (with_reducible first | exact HB.out | apply below_alloc | apply pw_below_drewN | apply below_drew1) | exact HB.out))) : w.heap.size ≤ gb253)); clear HB; have HB := n0_; have BK253 := n1_; have GW253 := n2_; have GE253 := n3_; clear n0_ n1_ n2_ n3_; clear hb hbox hg; have hcz5_0 : w4.cell? ⟨gb253, 0, none⟩ = some (.int .i64 a0_0) := (blk_cell BK253.out 0).trans rfl; have hcz5_1 : w4.cell? ⟨gb253, 1, none⟩ = some (.slice A0_1 l0_1.length c0_1) := (blk_cell BK253.out 1).trans rfl; have hcz5_2 : w4.cell? ⟨gb253, 2, none⟩ = some (.slice A0_2 l0_2.length c0_2) := (blk_cell BK253.out 2).trans rfl; have hfz5_0 := blk_frozen BK253.out 0; have hfz5_1 := blk_frozen BK253.out 1; have hfz5_2 := blk_frozen BK253.out 2) | ((with_reducible refine gate_dst (N := 13) rfl ?_); refine Kd.S_make (Kd.slice 22 (Kd.int .u64)) _ 73 rfl (N := 13) rfl 69 _ _ rfl a0_0 rfl rfl Tryd.underlying69 (.slice none 0 0) 24 info73 rfl (by decide) (by omega) [] (ok := fun _ => True) (okp := fun _ => True) ⟨_, rfl, Kd.R_nil _ _ _ _ _⟩ (fun _ hk => hk) trivial (of_decide_eq_true (by first | (with_reducible assumption) | assumption)) (Nat.le_trans (Nat.mul_le_mul_right _ (of_decide_eq_true (by first | (with_reducible assumption) | assumption) : a0_0.toNat ≤ 11728124029610)) (by omega)) (Below.refl _ _) (Nat.le_refl _) ?_; intro v255 w6 ho7 hb hg_ hnew_; clear hg_ hnew_; (first | rw [← Ny254.out] at ho7 | (simp only [Int.reduceToNat] at ho7; rw [← Ny254.out] at ho7)); have n0_ := Aside0.mk (Kd.S_lower ho7 (below_size (by repeat (first | (with_reducible first | exact HB.out | apply below_alloc | apply pw_below_drewN | apply below_drew1 | refine below_set ?_ GE253.out) | exact HB.out)))); have n1_ := Aside0.mk (blk_below (g := gb253) (o := .cells #[.int .i64 a0_0, .slice A0_1 l0_1.length c0_1, .slice A0_2 l0_2.length c0_2] 59 (0, 0)) (by (with_reducible repeat (first | refine blk_drewN ?_ _ | refine blk_drew ?_ | refine blk_alloc ?_ _)); exact BK253.out) hb); have n2_ := Aside0.mk (below_step (by repeat (first | (with_reducible first | exact HB.out | apply below_alloc | apply pw_below_drewN | apply below_drew1 | refine below_set ?_ GE253.out) | exact HB.out)) hb); clear BK253; clear HB; have HO256 := n0_; have BK253 := n1_; have HB := n2_; clear n0_ n1_ n2_; clear hb ho7))
      go_loopg [4] k (fun kq v4 w' => ∃ (x3_1 : List (List Int)) (x4_1 : Int), v4 = .int .i64 x4_1 ∧ Aside0 (marchlandref05_closed.l0 kq x3_1 x4_1 a0_0 l0_1 l0_2 = some r) ∧ Aside0 (kq ≤ k) ∧ Aside0 (Kd.S (Kd.slice 22 (Kd.int .u64)) 73 w' w.heap.size (fun _ => True) v255 x3_1) ∧ Aside0 (w'.heap[gb253]? = some (.cells #[.int .i64 a0_0, (.slice A0_1 l0_1.length c0_1), (.slice A0_2 l0_2.length c0_2)] 59 (0, 0))) ∧ Aside0 (Below w.heap.size w w'))
      case atStart => exact ⟨(y254), (0), (by first | rfl | (simp; done) | (simp [*]; done)), H', ⟨Nat.le_refl _⟩, ⟨by (with_reducible repeat (first | apply Kd.S_alloc | apply Kd.S_drewN | apply Kd.S_drew)); exact HO256.out⟩, ⟨by (with_reducible repeat (first | refine blk_drewN ?_ _ | refine blk_drew ?_ | refine blk_alloc ?_ _)); exact BK253.out⟩, ⟨by repeat (first | (with_reducible first | exact HB.out | apply below_alloc | apply pw_below_drewN | apply below_drew1 | refine below_set ?_ GE253.out) | exact HB.out)⟩⟩
      case round =>
        clear H'
        try clear c2
        try clear c2b0
        try clear c2b1
        try clear p2
        try clear c3
        try clear c3b0
        try clear c3b1
        try clear c7
        try clear hcz5_0
        try clear hcz5_1
        try clear hcz5_2
        try clear hfz5_0
        try clear hfz5_1
        try clear hfz5_2
        obtain ⟨x3_1, x4_1, rfl, HA, HK1, HO_3, BK253, HB⟩ := hrel
        cases gk with
        | zero => exact absurd HA.out (by simp [marchlandref05_closed.l0])
        | succ k1 =>
          have H := HA.out
          clear HA
          simp only [marchlandref05_closed.l0] at H
          by_cases c8 : x4_1 < a0_0
          · rw [if_pos c8] at H
            have c8b0 : decide (x4_1 < a0_0) = true := decide_eq_true c8
            clear c8
            by_cases c9 : 0 ≤ a0_0
            · rw [if_pos c9] at H
              have c9b0 := eq_true c9
              have c9b1 : decide (0 ≤ a0_0) = true := decide_eq_true c9
              clear c9
              by_cases c10 : (a0_0 : Int).toNat ≤ 35184372088832
              · rw [if_pos c10] at H
                have c10b0 := eq_true c10
                have c10b1 : decide ((a0_0 : Int).toNat ≤ 35184372088832) = true := decide_eq_true c10
                clear c10
                obtain ⟨y257, hy257⟩ : ∃ y_ : List Int, y_ = (List.replicate (a0_0 : Int).toNat 0) := ⟨_, rfl⟩
                replace H : (if 0 ≤ x4_1 then (if x4_1 < (x3_1.length : Int) then (marchlandref05_closed.l1 k1 (x3_1.set (x4_1 : Int).toNat y257) x4_1 0 a0_0 l0_1 l0_2) else (none)) else (none)) = some r := by first | (rw [hy257]; with_reducible exact H) | (have H2_ := (Option.bind_some _ _).symm.trans H; rw [hy257]; with_reducible exact H2_) | (have H2_ := (Option.bind_some _ _).symm.trans H; with_reducible exact H2_) | with_reducible exact H | (rw [hy257]; exact H) | exact H
                have Ny257 := Aside0.mk hy257
                clear hy257
                by_cases c11 : 0 ≤ x4_1
                · rw [if_pos c11] at H
                  have c11b0 : decide (0 ≤ x4_1) = true := decide_eq_true c11
                  clear c11
                  by_cases c12 : x4_1 < (x3_1.length : Int)
                  · rw [if_pos c12] at H
                    have c12b0 : decide (x4_1 < (x3_1.length : Int)) = true := decide_eq_true c12
                    clear c12
                    obtain ⟨y260, hy260⟩ : ∃ y_ : List (List Int), y_ = (x3_1.set (x4_1 : Int).toNat y257) := ⟨_, rfl⟩
                    replace H : (marchlandref05_closed.l1 k1 y260 x4_1 0 a0_0 l0_1 l0_2) = some r := by first | (rw [hy260]; with_reducible exact H) | (have H2_ := (Option.bind_some _ _).symm.trans H; rw [hy260]; with_reducible exact H2_) | (have H2_ := (Option.bind_some _ _).symm.trans H; with_reducible exact H2_) | with_reducible exact H | (rw [hy260]; exact H) | exact H
                    have Ny260 := Aside0.mk hy260
                    clear hy260
                    have H' := Aside0.mk H
                    clear H
                    have hcz14_0 : wr.cell? ⟨gb253, 0, none⟩ = some (.int .i64 a0_0) := (blk_cell BK253.out 0).trans rfl
                    have hcz14_1 : wr.cell? ⟨gb253, 1, none⟩ = some (.slice A0_1 l0_1.length c0_1) := (blk_cell BK253.out 1).trans rfl
                    have hcz14_2 : wr.cell? ⟨gb253, 2, none⟩ = some (.slice A0_2 l0_2.length c0_2) := (blk_cell BK253.out 2).trans rfl
                    have hfz14_0 := blk_frozen BK253.out 0
                    have hfz14_1 := blk_frozen BK253.out 1
                    have hfz14_2 := blk_frozen BK253.out 2
                    go_wp2_with (first | ((with_reducible refine gate_dst (N := 24) rfl ?_); refine Kd.R_make (Kd.int .u64) _ 22 rfl (N := 24) rfl 73 _ _ rfl a0_0 rfl rfl Tryd.underlying73 (.int .u64 0) 8 info22 rfl (by decide) (by omega) 0 (ok := fun _ => True) (okp := fun _ => True) rfl (fun _ hk => hk) trivial (of_decide_eq_true (by first | (with_reducible assumption) | assumption)) (Nat.le_trans (Nat.mul_le_mul_right _ (of_decide_eq_true (by first | (with_reducible assumption) | assumption) : a0_0.toNat ≤ 35184372088832)) (by omega)) (Below.refl _ _) (Nat.le_refl _) ?_; intro v258 w15 ho16 hb hg_ hnew_; clear hg_ hnew_; (first | rw [← Ny257.out] at ho16 | (simp only [Int.reduceToNat] at ho16; rw [← Ny257.out] at ho16)); have n0_ := Aside0.mk (Kd.S_elder' (by (with_reducible repeat (first | apply Kd.S_alloc | apply Kd.S_drewN | apply Kd.S_drew)); exact HO_3.out) (Kd.R_base ho16) hb); have n1_ := Aside0.mk (Kd.R_lower ho16 (below_size (by repeat (first | (with_reducible first | exact HB.out | apply below_alloc | apply pw_below_drewN | apply below_drew1 | refine below_set ?_ GE253.out) | exact HB.out)))); have n2_ := Aside0.mk (blk_below (g := gb253) (o := .cells #[.int .i64 a0_0, .slice A0_1 l0_1.length c0_1, .slice A0_2 l0_2.length c0_2] 59 (0, 0)) (by (with_reducible repeat (first | refine blk_drewN ?_ _ | refine blk_drew ?_ | refine blk_alloc ?_ _)); exact BK253.out) hb); have n3_ := Aside0.mk (below_step (by repeat (first | (with_reducible first | exact HB.out | apply below_alloc | apply pw_below_drewN | apply below_drew1 | refine below_set ?_ GE253.out) | exact HB.out)) hb); clear HO_3; clear BK253; clear HB; have HO_3 := n0_; have HO259 := n1_; have BK253 := n2_; have HB := n3_; obtain ⟨vp_, vn_, vc_, hv763_⟩ := R_slice HO259.out; have HV763 := Aside0.mk hv763_; clear hv763_; clear n0_ n1_ n2_ n3_; clear hb ho16; have p13 : 0 ≤ (x4_1 : Int) := of_decide_eq_true (by first | (with_reducible assumption) | assumption); have q13 : (x4_1 : Int) < ((x3_1.length : Int) : Int) := of_decide_eq_true (by first | (with_reducible assumption) | assumption); obtain ⟨go13, co13, eo13, gb13, gl13, cl13, HG13⟩ := Kd.S_form HO_3.out (by omega); (first | cases eo13 | (injection eo13 with ea_ en_ ec_; (first | subst ea_ | (injection ea_ with ea_; subst ea_)); subst ec_; clear en_)); have GB13 := Aside0.mk gb13; have GG13 := Aside0.mk HG13; clear gb13 gl13 HG13; obtain ⟨_, ce13, hcl13, hM13, hcc13, hfr13, _, _⟩ := Kd.S_elem HO_3.out [] (x4_1 : Int) p13 q13; obtain ⟨ve13_0, rfl, ge13_0⟩ := hM13; have hx13_0 := hcc13 0 _ rfl; have hf13_0 := hfr13 0; (try simp only [show ((Kd.slice 22 (Kd.int .u64))).sz = 1 from rfl, Nat.mul_one, Nat.add_zero] at hx13_0); (try simp only [show ((Kd.slice 22 (Kd.int .u64))).sz = 1 from rfl, Nat.mul_one, Nat.add_zero] at hf13_0); (try clear hM13); clear hcl13 hcc13 hfr13; replace p13 := eq_true p13; replace q13 := eq_true q13; have n_ := Aside0.mk (Kd.S_mono (ok' := (fun k_ => some k_ ≠ (v258 : Value).ownBlock)) HO_3.out (fun k_ hk => hk.2)); clear HO_3; have HO_3 := n_; clear n_; have HX17 := Aside0.mk (show Kd.S (Kd.slice 22 (Kd.int .u64)) 73 w15 w.heap.size (fun k_ => ((fun _ => True)) k_ ∧ ¬ ((fun k_ => some k_ = (v258 : Value).ownBlock)) k_) (.slice (some ⟨go13, 0, none⟩) x3_1.length co13) x3_1 from (by (with_reducible repeat (first | apply Kd.S_alloc | apply Kd.S_drewN | apply Kd.S_drew)); exact Kd.S_mono HO_3.out (fun k_ hk => ⟨trivial, fun e_ => hk e_⟩))); obtain ⟨oki17, ce17, hcl17, hM17, hcc17, hfr17, hoki17, hH17⟩ := Kd.S_elem HX17.out [] (x4_1 : Int) (of_decide_eq_true (by first | (with_reducible assumption) | assumption)) (by have h_ : (x4_1 : Int) < ((x3_1.length : Int) : Int) := of_decide_eq_true (by first | (with_reducible assumption) | assumption); first | exact h_ | (have e_ := (Kd.S_reads' HO_3.out).1; omega) | simpa using h_); obtain ⟨ve17_0, rfl, ge17_0⟩ := hM17; have HP17 := Kd.S_seg hH17 (of_decide_eq_true (by first | (with_reducible assumption) | assumption)) (by have h_ : (x4_1 : Int) < ((x3_1.length : Int) : Int) := of_decide_eq_true (by first | (with_reducible assumption) | assumption); first | exact h_ | (have e_ := (Kd.S_reads' HO_3.out).1; omega) | simpa using h_) (seg := [v258]) (j := 0) (show 1 ≤ 1 from by decide) (x' := y257) (Kd.M_row (Kd.R_mono (Kd.R_tight rfl (Kd.R_mono (ok' := fun k_ => ((fun _ => True)) k_ ∧ k_ ≠ go13) (Kd.R_apart' (HO259.out) (Kd.S_typed HO_3.out) (by decide)) (fun k_ hk => ⟨trivial, fun e_ => (hk.2) (by rw [e_]; rfl)⟩))) (fun _ h_ => Or.inr (h_)))) (fun _ hk => hk) (fun k_ hk_ => ((Kd.R_mono (ok' := fun k_ => ((fun _ => True)) k_ ∧ k_ ≠ go13) (Kd.R_apart' (HO259.out) (Kd.S_typed HO_3.out) (by decide)) (fun k_ hk => ⟨trivial, fun e_ => (hk.2) (by rw [e_]; rfl)⟩))).1 k_ hk_.symm); have hx17_0 := hcc17 0 _ rfl; (try simp only [show ((Kd.slice 22 (Kd.int .u64))).sz = 1 from rfl, Nat.mul_one, Nat.add_zero] at hx17_0); have hf17_0 := hfr17 0; (try simp only [show ((Kd.slice 22 (Kd.int .u64))).sz = 1 from rfl, Nat.mul_one, Nat.add_zero] at hf17_0); (try clear hM17); clear hcl17 hcc17 hfr17 hoki17 hH17; (try simp only [show ((Kd.slice 22 (Kd.int .u64))).sz = 1 from rfl, Nat.mul_one, Nat.add_zero] at HP17)) | ((with_reducible refine gate_store (t := 73) (p := 25) rfl ?_); refine store_event (t := 73) (p := 25) (v := ?vo_w18) (w1 := (w15.setCell ⟨go13, (x4_1 : Int).toNat, none⟩ (v258))) ?hg ?ho ?hn ?hr ?_; (case ho => rfl); (case hg => rfl); (case hn => rfl); (case hr => (rw [HV763.out]; first | (go_simp; done) | (go_simp; rfl))); intro w18 hw; have hg : w15.grownBy w18 (some go13) := (by rw [hw]; exact HP17.2); have hp_ : Kd.S (Kd.slice 22 (Kd.int .u64)) 73 w18 w.heap.size (fun _ => True) (.slice (some ⟨go13, 0, none⟩) x3_1.length co13) y260 := (by rw [hw, Ny260.out]; exact HP17.1); clear HP17; have n0_ := Aside0.mk (hp_); have n1_ := Aside0.mk (blk_grown (g := gb253) (o := .cells #[.int .i64 a0_0, .slice A0_1 l0_1.length c0_1, .slice A0_2 l0_2.length c0_2] 59 (0, 0)) (by (with_reducible repeat (first | refine blk_drewN ?_ _ | refine blk_drew ?_ | refine blk_alloc ?_ _)); exact BK253.out) hg (Kd.S_ne HO_3.out BK253.out (by decide))); have n2_ := Aside0.mk ((by rw [hw]; exact below_set (HB.out) GB13.out : Below w.heap.size w w18)); clear HO_3; clear BK253; clear HB; clear HO259; have HO_3 := n0_; have BK253 := n1_; have HB := n2_; clear n0_ n1_ n2_; clear hg hw hp_))
                    go_loopg [5] k1 (fun kq v5 w' => ∃ (x3_2 : List (List Int)) (x5_2 : Int), v5 = .int .i64 x5_2 ∧ Aside0 (marchlandref05_closed.l1 kq x3_2 x4_1 x5_2 a0_0 l0_1 l0_2 = some r) ∧ Aside0 (kq ≤ k1) ∧ Aside0 (Kd.S (Kd.slice 22 (Kd.int .u64)) 73 w' w.heap.size (fun _ => True) (.slice (some ⟨go13, 0, none⟩) x3_1.length co13) x3_2) ∧ Aside0 (w'.heap[gb253]? = some (.cells #[.int .i64 a0_0, (.slice A0_1 l0_1.length c0_1), (.slice A0_2 l0_2.length c0_2)] 59 (0, 0))) ∧ Aside0 (Below w.heap.size w w'))
                    case atStart => exact ⟨(y260), (0), (by first | rfl | (simp; done) | (simp [*]; done)), H', ⟨Nat.le_refl _⟩, ⟨by (with_reducible repeat (first | apply Kd.S_alloc | apply Kd.S_drewN | apply Kd.S_drew)); exact HO_3.out⟩, ⟨by (with_reducible repeat (first | refine blk_drewN ?_ _ | refine blk_drew ?_ | refine blk_alloc ?_ _)); exact BK253.out⟩, ⟨by repeat (first | (with_reducible first | exact HB.out | apply below_alloc | apply pw_below_drewN | apply below_drew1 | refine below_set ?_ GE253.out) | exact HB.out)⟩⟩
                    case round =>
                      clear H'
                      try clear c1
                      try clear p1
                      try clear q1
                      try clear hx1
                      try clear hf1
                      try clear c2
                      try clear c2b0
                      try clear c2b1
                      try clear p2
                      try clear c3
                      try clear c3b0
                      try clear c3b1
                      try clear c7
                      try clear c8
                      try clear c8b0
                      try clear c9
                      try clear c9b0
                      try clear c9b1
                      try clear c10
                      try clear c10b0
                      try clear c10b1
                      try clear c11
                      try clear c11b0
                      try clear c12
                      try clear c12b0
                      try clear c13
                      try clear p13
                      try clear q13
                      try clear hx13
                      try clear hf13
                      try clear c17
                      try clear hx17
                      try clear hf17
                      try clear hcz14_0
                      try clear hcz14_1
                      try clear hcz14_2
                      try clear hcz5_0
                      try clear hcz5_1
                      try clear hcz5_2
                      try clear hfz14_0
                      try clear hfz14_1
                      try clear hfz14_2
                      try clear hfz5_0
                      try clear hfz5_1
                      try clear hfz5_2
                      try clear hx13_0
                      try clear hx17_0
                      try clear p13
                      try clear p2
                      try clear q13
                      obtain ⟨x3_2, x5_2, rfl, HA, HK2, HO_3, BK253, HB⟩ := hrel
                      have hl3_2 := (Kd.S_reads' HO_3.out).1
                      rw [hl3_2] at HO_3
                      (try simp only [hl3_2])
                      (try simp only [hl3_2] at BK253)
                      cases gk with
                      | zero => exact absurd HA.out (by simp [marchlandref05_closed.l1])
                      | succ k2 =>
                        have H := HA.out
                        clear HA
                        simp only [marchlandref05_closed.l1] at H
                        by_cases c19 : x5_2 < a0_0
                        · rw [if_pos c19] at H
                          have c19b0 : decide (x5_2 < a0_0) = true := decide_eq_true c19
                          clear c19
                          by_cases c20 : 0 ≤ x4_1
                          · rw [if_pos c20] at H
                            have c20b0 : decide (0 ≤ x4_1) = true := decide_eq_true c20
                            clear c20
                            by_cases c21 : x4_1 < (x3_2.length : Int)
                            · rw [if_pos c21] at H
                              have c21b0 : decide (x4_1 < (x3_2.length : Int)) = true := decide_eq_true c21
                              clear c21
                              by_cases c22 : 0 ≤ x5_2
                              · rw [if_pos c22] at H
                                have c22b0 : decide (0 ≤ x5_2) = true := decide_eq_true c22
                                clear c22
                                by_cases c23 : x5_2 < ((rd_L8 x3_2 x4_1).length : Int)
                                · rw [if_pos c23] at H
                                  have c23b0 : decide (x5_2 < ((rd_L8 x3_2 x4_1).length : Int)) = true := decide_eq_true c23
                                  clear c23
                                  obtain ⟨y262, hy262⟩ : ∃ y_ : List Int, y_ = ((rd_L8 x3_2 x4_1).set (x5_2 : Int).toNat 18446744073709551615) := ⟨_, rfl⟩
                                  replace H : ((some (x3_2.set (x4_1 : Int).toNat y262 : List (List Int))).bind fun y264 => (if x4_1 = x5_2 then (if x5_2 < ((rd_L8 y264 x4_1).length : Int) then (marchlandref05_closed.l1 k2 (y264.set (x4_1 : Int).toNat ((rd_L8 y264 x4_1).set (x5_2 : Int).toNat 0)) x4_1 (wrap64 (x5_2 + 1)) a0_0 l0_1 l0_2) else (none)) else (marchlandref05_closed.l1 k2 y264 x4_1 (wrap64 (x5_2 + 1)) a0_0 l0_1 l0_2))) = some r := by first | (rw [hy262]; with_reducible exact H) | (have H2_ := (Option.bind_some _ _).symm.trans H; rw [hy262]; with_reducible exact H2_) | (have H2_ := (Option.bind_some _ _).symm.trans H; with_reducible exact H2_) | with_reducible exact H | (rw [hy262]; exact H) | exact H
                                  have Ny262 := Aside0.mk hy262
                                  clear hy262
                                  obtain ⟨y264, hy264⟩ : ∃ y_ : List (List Int), y_ = (x3_2.set (x4_1 : Int).toNat y262) := ⟨_, rfl⟩
                                  replace H : (if x4_1 = x5_2 then (if x5_2 < ((rd_L8 y264 x4_1).length : Int) then (marchlandref05_closed.l1 k2 (y264.set (x4_1 : Int).toNat ((rd_L8 y264 x4_1).set (x5_2 : Int).toNat 0)) x4_1 (wrap64 (x5_2 + 1)) a0_0 l0_1 l0_2) else (none)) else (marchlandref05_closed.l1 k2 y264 x4_1 (wrap64 (x5_2 + 1)) a0_0 l0_1 l0_2)) = some r := by first | (rw [hy264]; with_reducible exact H) | (have H2_ := (Option.bind_some _ _).symm.trans H; rw [hy264]; with_reducible exact H2_) | (have H2_ := (Option.bind_some _ _).symm.trans H; with_reducible exact H2_) | with_reducible exact H | (rw [hy264]; exact H) | exact H
                                  have Ny264 := Aside0.mk hy264
                                  clear hy264
                                  by_cases c25 : x4_1 = x5_2
                                  · rw [if_pos c25] at H
                                    have c25b0 : (x4_1 == x5_2) = true := beq_iff_eq.mpr c25
                                    have c25b1 : (x4_1 != x5_2) = false := bne_eq_false_iff_eq.mpr c25
                                    clear c25
                                    by_cases c26 : x5_2 < ((rd_L8 y264 x4_1).length : Int)
                                    · rw [if_pos c26] at H
                                      have c26b0 : decide (x5_2 < ((rd_L8 y264 x4_1).length : Int)) = true := decide_eq_true c26
                                      clear c26
                                      obtain ⟨y266, hy266⟩ : ∃ y_ : List Int, y_ = ((rd_L8 y264 x4_1).set (x5_2 : Int).toNat 0) := ⟨_, rfl⟩
                                      replace H : (marchlandref05_closed.l1 k2 (y264.set (x4_1 : Int).toNat y266) x4_1 (wrap64 (x5_2 + 1)) a0_0 l0_1 l0_2) = some r := by first | (rw [hy266]; with_reducible exact H) | (have H2_ := (Option.bind_some _ _).symm.trans H; rw [hy266]; with_reducible exact H2_) | (have H2_ := (Option.bind_some _ _).symm.trans H; with_reducible exact H2_) | with_reducible exact H | (rw [hy266]; exact H) | exact H
                                      have Ny266 := Aside0.mk hy266
                                      clear hy266
                                      obtain ⟨y268, hy268⟩ : ∃ y_ : List (List Int), y_ = (y264.set (x4_1 : Int).toNat y266) := ⟨_, rfl⟩
                                      replace H : (marchlandref05_closed.l1 k2 y268 x4_1 (wrap64 (x5_2 + 1)) a0_0 l0_1 l0_2) = some r := by first | (rw [hy268]; with_reducible exact H) | (have H2_ := (Option.bind_some _ _).symm.trans H; rw [hy268]; with_reducible exact H2_) | (have H2_ := (Option.bind_some _ _).symm.trans H; with_reducible exact H2_) | with_reducible exact H | (rw [hy268]; exact H) | exact H
                                      have Ny268 := Aside0.mk hy268
                                      clear hy268
                                      have H' := Aside0.mk H
                                      clear H
                                      have hcz28_0 : wr.cell? ⟨gb253, 0, none⟩ = some (.int .i64 a0_0) := (blk_cell BK253.out 0).trans rfl
                                      have hcz28_1 : wr.cell? ⟨gb253, 1, none⟩ = some (.slice A0_1 l0_1.length c0_1) := (blk_cell BK253.out 1).trans rfl
                                      have hcz28_2 : wr.cell? ⟨gb253, 2, none⟩ = some (.slice A0_2 l0_2.length c0_2) := (blk_cell BK253.out 2).trans rfl
                                      have hfz28_0 := blk_frozen BK253.out 0
                                      have hfz28_1 := blk_frozen BK253.out 1
                                      have hfz28_2 := blk_frozen BK253.out 2
                                      have p261 : 0 ≤ (x4_1 : Int) := of_decide_eq_true (by first | (with_reducible assumption) | assumption)
                                      have q261 : x4_1 < (x3_2.length : Int) := of_decide_eq_true (by first | (with_reducible assumption) | assumption)
                                      obtain ⟨ad261, A261_0, c261_0, e261, hx261_0, hl261_0, hi261_0⟩ := at_L8 (Kd.S_reads' HO_3.out).2.2 x4_1 p261 q261
                                      obtain rfl : (⟨go13, 0, none⟩ : Addr) = ad261 := (by injection e261)
                                      obtain ⟨ce261, hce261, hMe261, hcc261⟩ := Kd.S_get HO_3.out [] x4_1 p261 (by first | exact q261 | exact of_decide_eq_true (by first | (with_reducible assumption) | assumption) | (have e_ := (Kd.S_reads' HO_3.out).1; omega))
                                      obtain ⟨ve261_0, rfl, ge261_0⟩ := hMe261
                                      have hv261_0 := hcc261 0 _ rfl
                                      rw [Nat.add_zero, show ((Kd.slice 22 (Kd.int .u64))).sz = 1 from rfl, Nat.mul_one] at hv261_0
                                      replace hv261_0 := Option.some.inj (hv261_0.symm.trans hx261_0)
                                      rw [hv261_0] at ge261_0
                                      have HL261_0 := Aside0.mk (show Kd.R (Kd.int .u64) 22 _ _ _ _ (rd_L8 x3_2 x4_1) from ge261_0)
                                      clear hv261_0 ge261_0
                                      have HX261_0 := Aside0.mk hx261_0
                                      clear hcc261 hce261
                                      (first | simp only [add_plain] at hx261_0 | simp only [add_at] at hx261_0 | simp only [Addr.add, Nat.zero_add] at hx261_0 | skip)
                                      have HR261_0 := Aside0.mk hi261_0
                                      have HC261_0 := Aside0.mk hl261_0
                                      clear hi261_0 hl261_0
                                      replace p261 := eq_true p261
                                      replace q261 := eq_true q261
                                      have p24 : 0 ≤ (x5_2 : Int) := of_decide_eq_true (by first | (with_reducible assumption) | assumption)
                                      have q24 : (x5_2 : Int) < (((rd_L8 x3_2 x4_1).length : Int) : Int) := of_decide_eq_true (by first | (with_reducible assumption) | assumption)
                                      obtain ⟨go24, co24, eo24, gb24, gl24, cl24, HG24⟩ := Kd.R_form HL261_0.out (by omega)
                                      (first | cases eo24 | (injection eo24 with ea_ en_ ec_; (first | subst ea_ | (injection ea_ with ea_; subst ea_)); subst ec_; clear en_))
                                      have GB24 := Aside0.mk gb24
                                      have GG24 := Aside0.mk HG24
                                      clear gb24 gl24 HG24
                                      obtain ⟨hx24_0, hf24_0⟩ := Kd.R_celln 0 HL261_0.out (x5_2 : Int) p24 q24
                                      replace p24 := eq_true p24
                                      replace q24 := eq_true q24
                                      have hq29 : (x4_1 : Int) < (x3_2.length : Int) := (by have h_ : (x4_1 : Int) < ((x3_2.length : Int) : Int) := of_decide_eq_true (by first | (with_reducible assumption) | assumption); first | exact h_ | (have e_ := (Kd.S_reads' HO_3.out).1; omega) | simpa only [List.length_set, List.length_set] using h_)
                                      obtain ⟨oki29, ce29, hcl29, hM29, hcc29, hok29, hbk29⟩ := Kd.S_borrow HO_3.out [] (x4_1 : Int) (of_decide_eq_true (by first | (with_reducible assumption) | assumption)) hq29
                                      obtain ⟨ve29_0, rfl, ge29_0⟩ := hM29
                                      have hv29 := hcc29 0 _ rfl
                                      rw [Nat.add_zero, show ((Kd.slice 22 (Kd.int .u64))).sz = 1 from rfl, Nat.mul_one] at hv29
                                      replace hv29 := Option.some.inj (hv29.symm.trans HX261_0.out)
                                      subst hv29
                                      clear hcc29 hcl29
                                      replace ge29_0 := (show Kd.R (Kd.int .u64) 22 _ _ _ _ (rd_L8 x3_2 x4_1) from ge29_0)
                                      have HP29 := Kd.R_putg ge29_0 (x5_2 : Int) 18446744073709551615
                                      go_wp2_with (first | ((with_reducible refine gate_store (t := 22) (p := 37) rfl ?_); refine store_event (t := 22) (p := 37) (v := ?vo_w30) (w1 := (wr.setCell ⟨go24, (x5_2 : Int).toNat, none⟩ (.int .u64 18446744073709551615))) ?hg ?ho ?hn ?hr ?_; (case ho => rfl); (case hg => rfl); (case hn => rfl); (case hr => first | (go_simp; done) | (go_simp; rfl)); intro w30 hw; have hg : wr.grownBy w30 (some go24) := (by rw [hw]; exact HP29.2); have hz_ : Kd.R (Kd.int .u64) 22 w30 w.heap.size oki29 (.slice (some ⟨go24, 0, none⟩) (rd_L8 x3_2 x4_1).length c261_0) y262 := (by rw [hw, Ny262.out]; exact HP29.1); have hp_ : Kd.S (Kd.slice 22 (Kd.int .u64)) 73 w30 w.heap.size (fun _ => True) (.slice (some ⟨go13, 0, none⟩) x3_2.length co13) y264 := (by rw [Ny264.out]; exact hbk29 hg (fun k_ e_ => by injection e_ with e_; subst e_; exact ge29_0.1 _ rfl) (Kd.M_row hz_)); have hm_ := Kd.R_mono hz_ hok29; clear HP29 hbk29; have n0_ := Aside0.mk (hp_); have n1_ := Aside0.mk (blk_grown (g := gb253) (o := .cells #[.int .i64 a0_0, .slice A0_1 l0_1.length c0_1, .slice A0_2 l0_2.length c0_2] 59 (0, 0)) (by (with_reducible repeat (first | refine blk_drewN ?_ _ | refine blk_drew ?_ | refine blk_alloc ?_ _)); exact BK253.out) hg (Kd.R_ne HL261_0.out BK253.out (by decide))); have n2_ := Aside0.mk ((by rw [hw]; exact below_set (HB.out) GB24.out : Below w.heap.size w w30)); have n3_ := Aside0.mk (hm_); have n4_ := Aside0.mk ((Kd.R_reads' hm_).2.1); clear HO_3; clear BK253; clear HB; clear HL261_0; have HO_3 := n0_; have BK253 := n1_; have HB := n2_; have HL280 := n3_; have HC263 := n4_; clear n0_ n1_ n2_ n3_ n4_; clear hg hw hp_ hz_ hm_ hok29; have p265 : 0 ≤ (x4_1 : Int) := of_decide_eq_true (by first | (with_reducible assumption) | assumption); have q265 : x4_1 < (y264.length : Int) := (by have h_ : (x4_1 : Int) < ((x3_2.length : Int) : Int) := of_decide_eq_true (by first | (with_reducible assumption) | assumption); first | (have e_ := (Kd.S_reads' HO_3.out).1; omega) | simpa only [Ny264.out, List.length_set] using h_); have ql265 : ((x4_1 : Int) < ((x3_2.length : Int) : Int)) = True := eq_true (of_decide_eq_true (by first | (with_reducible assumption) | assumption)); obtain ⟨ad265, A265_0, c265_0, e265, hx265_0, hl265_0, hi265_0⟩ := at_L8 (Kd.S_reads' HO_3.out).2.2 x4_1 p265 q265; obtain rfl : (⟨go13, 0, none⟩ : Addr) = ad265 := (by injection e265); obtain ⟨ce265, hce265, hMe265, hcc265⟩ := Kd.S_get HO_3.out [] x4_1 p265 (by first | exact q265 | exact of_decide_eq_true (by first | (with_reducible assumption) | assumption) | (have e_ := (Kd.S_reads' HO_3.out).1; omega)); obtain ⟨ve265_0, rfl, ge265_0⟩ := hMe265; have hv265_0 := hcc265 0 _ rfl; rw [Nat.add_zero, show ((Kd.slice 22 (Kd.int .u64))).sz = 1 from rfl, Nat.mul_one] at hv265_0; replace hv265_0 := Option.some.inj (hv265_0.symm.trans hx265_0); rw [hv265_0] at ge265_0; have HL265_0 := Aside0.mk (show Kd.R (Kd.int .u64) 22 _ _ _ _ (rd_L8 y264 x4_1) from ge265_0); clear hv265_0 ge265_0; have HX265_0 := Aside0.mk hx265_0; clear hcc265 hce265; (first | simp only [add_plain] at hx265_0 | simp only [add_at] at hx265_0 | simp only [Addr.add, Nat.zero_add] at hx265_0 | skip); have HR265_0 := Aside0.mk hi265_0; have HC265_0 := Aside0.mk hl265_0; clear hi265_0 hl265_0; replace p265 := eq_true p265; replace q265 := eq_true q265; have p27 : 0 ≤ (x5_2 : Int) := of_decide_eq_true (by first | (with_reducible assumption) | assumption); have q27 : (x5_2 : Int) < (((rd_L8 y264 x4_1).length : Int) : Int) := of_decide_eq_true (by first | (with_reducible assumption) | assumption); obtain ⟨go27, co27, eo27, gb27, gl27, cl27, HG27⟩ := Kd.R_form HL265_0.out (by omega); (first | cases eo27 | (injection eo27 with ea_ en_ ec_; (first | subst ea_ | (injection ea_ with ea_; subst ea_)); subst ec_; clear en_)); have GB27 := Aside0.mk gb27; have GG27 := Aside0.mk HG27; clear gb27 gl27 HG27; obtain ⟨hx27_0, hf27_0⟩ := Kd.R_celln 0 HL265_0.out (x5_2 : Int) p27 q27; replace p27 := eq_true p27; replace q27 := eq_true q27; have hq31 : (x4_1 : Int) < (y264.length : Int) := (by have h_ : (x4_1 : Int) < ((x3_2.length : Int) : Int) := of_decide_eq_true (by first | (with_reducible assumption) | assumption); first | exact h_ | (have e_ := (Kd.S_reads' HO_3.out).1; omega) | simpa only [Ny264.out, List.length_set] using h_); obtain ⟨oki31, ce31, hcl31, hM31, hcc31, hok31, hbk31⟩ := Kd.S_borrow HO_3.out [] (x4_1 : Int) (of_decide_eq_true (by first | (with_reducible assumption) | assumption)) (by have h_ := hq31; rw [Ny264.out, List.length_set] at h_; exact h_); obtain ⟨ve31_0, rfl, ge31_0⟩ := hM31; have hv31 := hcc31 0 _ rfl; rw [Nat.add_zero, show ((Kd.slice 22 (Kd.int .u64))).sz = 1 from rfl, Nat.mul_one] at hv31; replace hv31 := Option.some.inj (hv31.symm.trans HX265_0.out); subst hv31; clear hcc31 hcl31; replace ge31_0 := (show Kd.R (Kd.int .u64) 22 _ _ _ _ (rd_L8 y264 x4_1) from ge31_0); have HP31 := Kd.R_putg ge31_0 (x5_2 : Int) 0) | ((with_reducible refine gate_store (t := 22) (p := 46) rfl ?_); refine store_event (t := 22) (p := 46) (v := ?vo_w32) (w1 := (w30.setCell ⟨go27, (x5_2 : Int).toNat, none⟩ (.int .u64 0))) ?hg ?ho ?hn ?hr ?_; (case ho => rfl); (case hg => rfl); (case hn => rfl); (case hr => first | (go_simp; done) | (go_simp; rfl)); intro w32 hw; have hg : w30.grownBy w32 (some go27) := (by rw [hw]; exact HP31.2); have hz_ : Kd.R (Kd.int .u64) 22 w32 w.heap.size oki31 (.slice (some ⟨go27, 0, none⟩) (rd_L8 y264 x4_1).length c265_0) y266 := (by rw [hw, Ny266.out]; exact HP31.1); have hp_ : Kd.S (Kd.slice 22 (Kd.int .u64)) 73 w32 w.heap.size (fun _ => True) (.slice (some ⟨go13, 0, none⟩) x3_2.length co13) y268 := (by rw [Ny268.out]; exact hbk31 hg (fun k_ e_ => by injection e_ with e_; subst e_; exact ge31_0.1 _ rfl) (Kd.M_row hz_)); have hm_ := Kd.R_mono hz_ hok31; clear HP31 hbk31; have n0_ := Aside0.mk (hp_); have n1_ := Aside0.mk (blk_grown (g := gb253) (o := .cells #[.int .i64 a0_0, .slice A0_1 l0_1.length c0_1, .slice A0_2 l0_2.length c0_2] 59 (0, 0)) (by (with_reducible repeat (first | refine blk_drewN ?_ _ | refine blk_drew ?_ | refine blk_alloc ?_ _)); exact BK253.out) hg (Kd.R_ne HL265_0.out BK253.out (by decide))); have n2_ := Aside0.mk ((by rw [hw]; exact below_set (HB.out) GB27.out : Below w.heap.size w w32)); have n3_ := Aside0.mk (hm_); have n4_ := Aside0.mk ((Kd.R_reads' hm_).2.1); clear HO_3; clear BK253; clear HB; clear HL280; clear HL265_0; have HO_3 := n0_; have BK253 := n1_; have HB := n2_; have HL281 := n3_; have HC267 := n4_; clear n0_ n1_ n2_ n3_ n4_; clear hg hw hp_ hz_ hm_ hok31))
                                      (try simp only [← hl3_2])
                                      go_roundg k2
                                      case measure => have := HK1.out; have := HK2.out; omega
                                      case rel => exact ⟨(y268), (wrap64 (x5_2 + 1)), (by first | rfl | (simp; done) | (simp [*]; done)), H', ⟨by have := HK1.out; have := HK2.out; omega⟩, ⟨by (try simp only [hl3_2]); (with_reducible repeat (first | apply Kd.S_alloc | apply Kd.S_drewN | apply Kd.S_drew)); exact HO_3.out⟩, ⟨by (try simp only [hl3_2]); (with_reducible repeat (first | refine blk_drewN ?_ _ | refine blk_drew ?_ | refine blk_alloc ?_ _)); exact BK253.out⟩, ⟨by repeat (first | (with_reducible first | exact HB.out | apply below_alloc | apply pw_below_drewN | apply below_drew1 | refine below_set ?_ GE253.out) | exact HB.out)⟩⟩
                                    · rw [if_neg c26] at H
                                      exact absurd H (by simp)
                                  · rw [if_neg c25] at H
                                    have c25b0 : (x4_1 == x5_2) = false := beq_eq_false_iff_ne.mpr c25
                                    have c25b1 : (x4_1 != x5_2) = true := bne_iff_ne.mpr c25
                                    have H' := Aside0.mk H
                                    clear H
                                    have hcz33_0 : wr.cell? ⟨gb253, 0, none⟩ = some (.int .i64 a0_0) := (blk_cell BK253.out 0).trans rfl
                                    have hcz33_1 : wr.cell? ⟨gb253, 1, none⟩ = some (.slice A0_1 l0_1.length c0_1) := (blk_cell BK253.out 1).trans rfl
                                    have hcz33_2 : wr.cell? ⟨gb253, 2, none⟩ = some (.slice A0_2 l0_2.length c0_2) := (blk_cell BK253.out 2).trans rfl
                                    have hfz33_0 := blk_frozen BK253.out 0
                                    have hfz33_1 := blk_frozen BK253.out 1
                                    have hfz33_2 := blk_frozen BK253.out 2
                                    have p261 : 0 ≤ (x4_1 : Int) := of_decide_eq_true (by first | (with_reducible assumption) | assumption)
                                    have q261 : x4_1 < (x3_2.length : Int) := of_decide_eq_true (by first | (with_reducible assumption) | assumption)
                                    obtain ⟨ad261, A261_0, c261_0, e261, hx261_0, hl261_0, hi261_0⟩ := at_L8 (Kd.S_reads' HO_3.out).2.2 x4_1 p261 q261
                                    obtain rfl : (⟨go13, 0, none⟩ : Addr) = ad261 := (by injection e261)
                                    obtain ⟨ce261, hce261, hMe261, hcc261⟩ := Kd.S_get HO_3.out [] x4_1 p261 (by first | exact q261 | exact of_decide_eq_true (by first | (with_reducible assumption) | assumption) | (have e_ := (Kd.S_reads' HO_3.out).1; omega))
                                    obtain ⟨ve261_0, rfl, ge261_0⟩ := hMe261
                                    have hv261_0 := hcc261 0 _ rfl
                                    rw [Nat.add_zero, show ((Kd.slice 22 (Kd.int .u64))).sz = 1 from rfl, Nat.mul_one] at hv261_0
                                    replace hv261_0 := Option.some.inj (hv261_0.symm.trans hx261_0)
                                    rw [hv261_0] at ge261_0
                                    have HL261_0 := Aside0.mk (show Kd.R (Kd.int .u64) 22 _ _ _ _ (rd_L8 x3_2 x4_1) from ge261_0)
                                    clear hv261_0 ge261_0
                                    have HX261_0 := Aside0.mk hx261_0
                                    clear hcc261 hce261
                                    (first | simp only [add_plain] at hx261_0 | simp only [add_at] at hx261_0 | simp only [Addr.add, Nat.zero_add] at hx261_0 | skip)
                                    have HR261_0 := Aside0.mk hi261_0
                                    have HC261_0 := Aside0.mk hl261_0
                                    clear hi261_0 hl261_0
                                    replace p261 := eq_true p261
                                    replace q261 := eq_true q261
                                    have p24 : 0 ≤ (x5_2 : Int) := of_decide_eq_true (by first | (with_reducible assumption) | assumption)
                                    have q24 : (x5_2 : Int) < (((rd_L8 x3_2 x4_1).length : Int) : Int) := of_decide_eq_true (by first | (with_reducible assumption) | assumption)
                                    obtain ⟨go24, co24, eo24, gb24, gl24, cl24, HG24⟩ := Kd.R_form HL261_0.out (by omega)
                                    (first | cases eo24 | (injection eo24 with ea_ en_ ec_; (first | subst ea_ | (injection ea_ with ea_; subst ea_)); subst ec_; clear en_))
                                    have GB24 := Aside0.mk gb24
                                    have GG24 := Aside0.mk HG24
                                    clear gb24 gl24 HG24
                                    obtain ⟨hx24_0, hf24_0⟩ := Kd.R_celln 0 HL261_0.out (x5_2 : Int) p24 q24
                                    replace p24 := eq_true p24
                                    replace q24 := eq_true q24
                                    have hq34 : (x4_1 : Int) < (x3_2.length : Int) := (by have h_ : (x4_1 : Int) < ((x3_2.length : Int) : Int) := of_decide_eq_true (by first | (with_reducible assumption) | assumption); first | exact h_ | (have e_ := (Kd.S_reads' HO_3.out).1; omega) | simpa only [List.length_set, List.length_set] using h_)
                                    obtain ⟨oki34, ce34, hcl34, hM34, hcc34, hok34, hbk34⟩ := Kd.S_borrow HO_3.out [] (x4_1 : Int) (of_decide_eq_true (by first | (with_reducible assumption) | assumption)) hq34
                                    obtain ⟨ve34_0, rfl, ge34_0⟩ := hM34
                                    have hv34 := hcc34 0 _ rfl
                                    rw [Nat.add_zero, show ((Kd.slice 22 (Kd.int .u64))).sz = 1 from rfl, Nat.mul_one] at hv34
                                    replace hv34 := Option.some.inj (hv34.symm.trans HX261_0.out)
                                    subst hv34
                                    clear hcc34 hcl34
                                    replace ge34_0 := (show Kd.R (Kd.int .u64) 22 _ _ _ _ (rd_L8 x3_2 x4_1) from ge34_0)
                                    have HP34 := Kd.R_putg ge34_0 (x5_2 : Int) 18446744073709551615
                                    go_wp2_with (first | ((with_reducible refine gate_store (t := 22) (p := 37) rfl ?_); refine store_event (t := 22) (p := 37) (v := ?vo_w35) (w1 := (wr.setCell ⟨go24, (x5_2 : Int).toNat, none⟩ (.int .u64 18446744073709551615))) ?hg ?ho ?hn ?hr ?_; (case ho => rfl); (case hg => rfl); (case hn => rfl); (case hr => first | (go_simp; done) | (go_simp; rfl)); intro w35 hw; have hg : wr.grownBy w35 (some go24) := (by rw [hw]; exact HP34.2); have hz_ : Kd.R (Kd.int .u64) 22 w35 w.heap.size oki34 (.slice (some ⟨go24, 0, none⟩) (rd_L8 x3_2 x4_1).length c261_0) y262 := (by rw [hw, Ny262.out]; exact HP34.1); have hp_ : Kd.S (Kd.slice 22 (Kd.int .u64)) 73 w35 w.heap.size (fun _ => True) (.slice (some ⟨go13, 0, none⟩) x3_2.length co13) y264 := (by rw [Ny264.out]; exact hbk34 hg (fun k_ e_ => by injection e_ with e_; subst e_; exact ge34_0.1 _ rfl) (Kd.M_row hz_)); have hm_ := Kd.R_mono hz_ hok34; clear HP34 hbk34; have n0_ := Aside0.mk (hp_); have n1_ := Aside0.mk (blk_grown (g := gb253) (o := .cells #[.int .i64 a0_0, .slice A0_1 l0_1.length c0_1, .slice A0_2 l0_2.length c0_2] 59 (0, 0)) (by (with_reducible repeat (first | refine blk_drewN ?_ _ | refine blk_drew ?_ | refine blk_alloc ?_ _)); exact BK253.out) hg (Kd.R_ne HL261_0.out BK253.out (by decide))); have n2_ := Aside0.mk ((by rw [hw]; exact below_set (HB.out) GB24.out : Below w.heap.size w w35)); have n3_ := Aside0.mk (hm_); have n4_ := Aside0.mk ((Kd.R_reads' hm_).2.1); clear HO_3; clear BK253; clear HB; clear HL261_0; have HO_3 := n0_; have BK253 := n1_; have HB := n2_; have HL282 := n3_; have HC263 := n4_; clear n0_ n1_ n2_ n3_ n4_; clear hg hw hp_ hz_ hm_ hok34))
                                    (try simp only [← hl3_2])
                                    go_roundg k2
                                    case measure => have := HK1.out; have := HK2.out; omega
                                    case rel => exact ⟨(y264), (wrap64 (x5_2 + 1)), (by first | rfl | (simp; done) | (simp [*]; done)), H', ⟨by have := HK1.out; have := HK2.out; omega⟩, ⟨by (try simp only [hl3_2]); (with_reducible repeat (first | apply Kd.S_alloc | apply Kd.S_drewN | apply Kd.S_drew)); exact HO_3.out⟩, ⟨by (try simp only [hl3_2]); (with_reducible repeat (first | refine blk_drewN ?_ _ | refine blk_drew ?_ | refine blk_alloc ?_ _)); exact BK253.out⟩, ⟨by repeat (first | (with_reducible first | exact HB.out | apply below_alloc | apply pw_below_drewN | apply below_drew1 | refine below_set ?_ GE253.out) | exact HB.out)⟩⟩
                                · rw [if_neg c23] at H
                                  exact absurd H (by simp)
                              · rw [if_neg c22] at H
                                exact absurd H (by simp)
                            · rw [if_neg c21] at H
                              exact absurd H (by simp)
                          · rw [if_neg c20] at H
                            exact absurd H (by simp)
                        · rw [if_neg c19] at H
                          have c19b0 : decide (x5_2 < a0_0) = false := decide_eq_false c19
                          clear c19
                          have H' := Aside0.mk H
                          clear H
                          have hcz36_0 : wr.cell? ⟨gb253, 0, none⟩ = some (.int .i64 a0_0) := (blk_cell BK253.out 0).trans rfl
                          have hcz36_1 : wr.cell? ⟨gb253, 1, none⟩ = some (.slice A0_1 l0_1.length c0_1) := (blk_cell BK253.out 1).trans rfl
                          have hcz36_2 : wr.cell? ⟨gb253, 2, none⟩ = some (.slice A0_2 l0_2.length c0_2) := (blk_cell BK253.out 2).trans rfl
                          have hfz36_0 := blk_frozen BK253.out 0
                          have hfz36_1 := blk_frozen BK253.out 1
                          have hfz36_2 := blk_frozen BK253.out 2
                          go_wp2
                          (try simp only [← hl3_2])
                          go_roundg k2
                          case measure => have := HK1.out; have := HK2.out; omega
                          case rel => exact ⟨(x3_2), (wrap64 (x4_1 + 1)), (by first | rfl | (simp; done) | (simp [*]; done)), H', ⟨by have := HK1.out; have := HK2.out; omega⟩, ⟨by (try simp only [hl3_2]); (with_reducible repeat (first | apply Kd.S_alloc | apply Kd.S_drewN | apply Kd.S_drew)); exact HO_3.out⟩, ⟨by (try simp only [hl3_2]); (with_reducible repeat (first | refine blk_drewN ?_ _ | refine blk_drew ?_ | refine blk_alloc ?_ _)); exact BK253.out⟩, ⟨by repeat (first | (with_reducible first | exact HB.out | apply below_alloc | apply pw_below_drewN | apply below_drew1 | refine below_set ?_ GE253.out) | exact HB.out)⟩⟩
                  · rw [if_neg c12] at H
                    exact absurd H (by simp)
                · rw [if_neg c11] at H
                  exact absurd H (by simp)
              · rw [if_neg c10] at H
                exact absurd H (by simp)
            · rw [if_neg c9] at H
              exact absurd H (by simp)
          · rw [if_neg c8] at H
            have c8b0 : decide (x4_1 < a0_0) = false := decide_eq_false c8
            clear c8
            have H' := Aside0.mk H
            clear H
            have hcz37_0 : wr.cell? ⟨gb253, 0, none⟩ = some (.int .i64 a0_0) := (blk_cell BK253.out 0).trans rfl
            have hcz37_1 : wr.cell? ⟨gb253, 1, none⟩ = some (.slice A0_1 l0_1.length c0_1) := (blk_cell BK253.out 1).trans rfl
            have hcz37_2 : wr.cell? ⟨gb253, 2, none⟩ = some (.slice A0_2 l0_2.length c0_2) := (blk_cell BK253.out 2).trans rfl
            have hfz37_0 := blk_frozen BK253.out 0
            have hfz37_1 := blk_frozen BK253.out 1
            have hfz37_2 := blk_frozen BK253.out 2
            go_wp2
            go_loopg [6] k1 (fun kq v6 w' => ∃ (x3_2 : List (List Int)) (x6_2 : Int), v6 = .int .i64 x6_2 ∧ Aside0 (marchlandref05_closed.l2 kq x3_2 x6_2 a0_0 l0_1 l0_2 = some r) ∧ Aside0 (kq ≤ k1) ∧ Aside0 (Kd.S (Kd.slice 22 (Kd.int .u64)) 73 w' w.heap.size (fun _ => True) v255 x3_2) ∧ Aside0 (w'.heap[gb253]? = some (.cells #[.int .i64 a0_0, (.slice A0_1 l0_1.length c0_1), (.slice A0_2 l0_2.length c0_2)] 59 (0, 0))) ∧ Aside0 (Below w.heap.size w w'))
            case atStart => exact ⟨(x3_1), (0), (by first | rfl | (simp; done) | (simp [*]; done)), H', ⟨Nat.le_refl _⟩, ⟨by (with_reducible repeat (first | apply Kd.S_alloc | apply Kd.S_drewN | apply Kd.S_drew)); exact HO_3.out⟩, ⟨by (with_reducible repeat (first | refine blk_drewN ?_ _ | refine blk_drew ?_ | refine blk_alloc ?_ _)); exact BK253.out⟩, ⟨by repeat (first | (with_reducible first | exact HB.out | apply below_alloc | apply pw_below_drewN | apply below_drew1 | refine below_set ?_ GE253.out) | exact HB.out)⟩⟩
            case round =>
              clear H'
              try clear c1
              try clear p1
              try clear q1
              try clear hx1
              try clear hf1
              try clear c2
              try clear c2b0
              try clear c2b1
              try clear p2
              try clear q2
              try clear hx2
              try clear hf2
              try clear c3
              try clear c3b0
              try clear c3b1
              try clear q3
              try clear p6
              try clear c7
              try clear c8
              try clear c8b0
              try clear c9
              try clear c9b0
              try clear c9b1
              try clear c10
              try clear c10b0
              try clear c10b1
              try clear c11
              try clear c11b0
              try clear c12
              try clear c12b0
              try clear c13
              try clear p13
              try clear q13
              try clear hx13
              try clear hf13
              try clear c17
              try clear hx17
              try clear hf17
              try clear c19
              try clear c19b0
              try clear c20
              try clear c20b0
              try clear c21
              try clear c21b0
              try clear c22
              try clear c22b0
              try clear c23
              try clear c23b0
              try clear p24
              try clear q24
              try clear hx24
              try clear hf24
              try clear c25
              try clear c25b0
              try clear c25b1
              try clear c26
              try clear c26b0
              try clear p26
              try clear q26
              try clear hx26
              try clear p27
              try clear q27
              try clear hx27
              try clear hf27
              try clear c29
              try clear q29
              try clear c31
              try clear q31
              try clear c34
              try clear q34
              try clear hcz14_0
              try clear hcz14_1
              try clear hcz14_2
              try clear hcz28_0
              try clear hcz28_1
              try clear hcz28_2
              try clear hcz33_0
              try clear hcz33_1
              try clear hcz33_2
              try clear hcz36_0
              try clear hcz36_1
              try clear hcz36_2
              try clear hcz37_0
              try clear hcz37_1
              try clear hcz37_2
              try clear hcz5_0
              try clear hcz5_1
              try clear hcz5_2
              try clear hfz14_0
              try clear hfz14_1
              try clear hfz14_2
              try clear hfz28_0
              try clear hfz28_1
              try clear hfz28_2
              try clear hfz33_0
              try clear hfz33_1
              try clear hfz33_2
              try clear hfz36_0
              try clear hfz36_1
              try clear hfz36_2
              try clear hfz37_0
              try clear hfz37_1
              try clear hfz37_2
              try clear hfz5_0
              try clear hfz5_1
              try clear hfz5_2
              try clear hx13_0
              try clear hx17_0
              try clear hx24_0
              try clear hx261_0
              try clear hx265_0
              try clear hx27_0
              try clear p1
              try clear p13
              try clear p2
              try clear p24
              try clear p261
              try clear p265
              try clear p27
              try clear q1
              try clear q13
              try clear q24
              try clear q261
              try clear q265
              try clear q27
              obtain ⟨x3_2, x6_2, rfl, HA, HK2, HO_3, BK253, HB⟩ := hrel
              cases gk with
              | zero => exact absurd HA.out (by simp [marchlandref05_closed.l2])
              | succ k2 =>
                have H := HA.out
                clear HA
                simp only [marchlandref05_closed.l2] at H
                by_cases c38 : x6_2 < a0_0
                · rw [if_pos c38] at H
                  have c38b0 : decide (x6_2 < a0_0) = true := decide_eq_true c38
                  clear c38
                  have H' := Aside0.mk H
                  clear H
                  have hcz39_0 : wr.cell? ⟨gb253, 0, none⟩ = some (.int .i64 a0_0) := (blk_cell BK253.out 0).trans rfl
                  have hcz39_1 : wr.cell? ⟨gb253, 1, none⟩ = some (.slice A0_1 l0_1.length c0_1) := (blk_cell BK253.out 1).trans rfl
                  have hcz39_2 : wr.cell? ⟨gb253, 2, none⟩ = some (.slice A0_2 l0_2.length c0_2) := (blk_cell BK253.out 2).trans rfl
                  have hfz39_0 := blk_frozen BK253.out 0
                  have hfz39_1 := blk_frozen BK253.out 1
                  have hfz39_2 := blk_frozen BK253.out 2
                  go_wp2
                  go_loopg [7] k2 (fun kq v7 w' => ∃ (x3_3 : List (List Int)) (x7_3 : Int), v7 = .int .i64 x7_3 ∧ Aside0 (marchlandref05_closed.l3 kq x3_3 x6_2 x7_3 a0_0 l0_1 l0_2 = some r) ∧ Aside0 (kq ≤ k2) ∧ Aside0 (Kd.S (Kd.slice 22 (Kd.int .u64)) 73 w' w.heap.size (fun _ => True) v255 x3_3) ∧ Aside0 (w'.heap[gb253]? = some (.cells #[.int .i64 a0_0, (.slice A0_1 l0_1.length c0_1), (.slice A0_2 l0_2.length c0_2)] 59 (0, 0))) ∧ Aside0 (Below w.heap.size w w'))
                  case atStart => exact ⟨(x3_2), (0), (by first | rfl | (simp; done) | (simp [*]; done)), H', ⟨Nat.le_refl _⟩, ⟨by (with_reducible repeat (first | apply Kd.S_alloc | apply Kd.S_drewN | apply Kd.S_drew)); exact HO_3.out⟩, ⟨by (with_reducible repeat (first | refine blk_drewN ?_ _ | refine blk_drew ?_ | refine blk_alloc ?_ _)); exact BK253.out⟩, ⟨by repeat (first | (with_reducible first | exact HB.out | apply below_alloc | apply pw_below_drewN | apply below_drew1 | refine below_set ?_ GE253.out) | exact HB.out)⟩⟩
                  case round =>
                    clear H'
                    try clear c1
                    try clear p1
                    try clear q1
                    try clear hx1
                    try clear hf1
                    try clear c2
                    try clear c2b0
                    try clear c2b1
                    try clear p2
                    try clear q2
                    try clear hx2
                    try clear hf2
                    try clear c3
                    try clear c3b0
                    try clear c3b1
                    try clear q3
                    try clear p6
                    try clear c7
                    try clear c8
                    try clear c8b0
                    try clear c9
                    try clear c9b0
                    try clear c9b1
                    try clear c10
                    try clear c10b0
                    try clear c10b1
                    try clear c11
                    try clear c11b0
                    try clear c12
                    try clear c12b0
                    try clear c13
                    try clear p13
                    try clear q13
                    try clear hx13
                    try clear hf13
                    try clear c17
                    try clear hx17
                    try clear hf17
                    try clear c19
                    try clear c19b0
                    try clear c20
                    try clear c20b0
                    try clear c21
                    try clear c21b0
                    try clear c22
                    try clear c22b0
                    try clear c23
                    try clear c23b0
                    try clear p24
                    try clear q24
                    try clear hx24
                    try clear hf24
                    try clear c25
                    try clear c25b0
                    try clear c25b1
                    try clear c26
                    try clear c26b0
                    try clear p26
                    try clear q26
                    try clear hx26
                    try clear p27
                    try clear q27
                    try clear hx27
                    try clear hf27
                    try clear c29
                    try clear q29
                    try clear c31
                    try clear q31
                    try clear c34
                    try clear q34
                    try clear c38
                    try clear c38b0
                    try clear hcz14_0
                    try clear hcz14_1
                    try clear hcz14_2
                    try clear hcz28_0
                    try clear hcz28_1
                    try clear hcz28_2
                    try clear hcz33_0
                    try clear hcz33_1
                    try clear hcz33_2
                    try clear hcz36_0
                    try clear hcz36_1
                    try clear hcz36_2
                    try clear hcz37_0
                    try clear hcz37_1
                    try clear hcz37_2
                    try clear hcz39_0
                    try clear hcz39_1
                    try clear hcz39_2
                    try clear hcz5_0
                    try clear hcz5_1
                    try clear hcz5_2
                    try clear hfz14_0
                    try clear hfz14_1
                    try clear hfz14_2
                    try clear hfz28_0
                    try clear hfz28_1
                    try clear hfz28_2
                    try clear hfz33_0
                    try clear hfz33_1
                    try clear hfz33_2
                    try clear hfz36_0
                    try clear hfz36_1
                    try clear hfz36_2
                    try clear hfz37_0
                    try clear hfz37_1
                    try clear hfz37_2
                    try clear hfz39_0
                    try clear hfz39_1
                    try clear hfz39_2
                    try clear hfz5_0
                    try clear hfz5_1
                    try clear hfz5_2
                    try clear hx13_0
                    try clear hx17_0
                    try clear hx24_0
                    try clear hx261_0
                    try clear hx265_0
                    try clear hx27_0
                    try clear p1
                    try clear p13
                    try clear p2
                    try clear p24
                    try clear p26
                    try clear p261
                    try clear p265
                    try clear p27
                    try clear p6
                    try clear q1
                    try clear q13
                    try clear q2
                    try clear q24
                    try clear q26
                    try clear q261
                    try clear q265
                    try clear q27
                    try clear q29
                    try clear q3
                    try clear q31
                    try clear q34
                    obtain ⟨x3_3, x7_3, rfl, HA, HK3, HO_3, BK253, HB⟩ := hrel
                    cases gk with
                    | zero => exact absurd HA.out (by simp [marchlandref05_closed.l3])
                    | succ k3 =>
                      have H := HA.out
                      clear HA
                      simp only [marchlandref05_closed.l3] at H
                      by_cases c40 : x7_3 < a0_0
                      · rw [if_pos c40] at H
                        have c40b0 : decide (x7_3 < a0_0) = true := decide_eq_true c40
                        clear c40
                        have H' := Aside0.mk H
                        clear H
                        have hcz41_0 : wr.cell? ⟨gb253, 0, none⟩ = some (.int .i64 a0_0) := (blk_cell BK253.out 0).trans rfl
                        have hcz41_1 : wr.cell? ⟨gb253, 1, none⟩ = some (.slice A0_1 l0_1.length c0_1) := (blk_cell BK253.out 1).trans rfl
                        have hcz41_2 : wr.cell? ⟨gb253, 2, none⟩ = some (.slice A0_2 l0_2.length c0_2) := (blk_cell BK253.out 2).trans rfl
                        have hfz41_0 := blk_frozen BK253.out 0
                        have hfz41_1 := blk_frozen BK253.out 1
                        have hfz41_2 := blk_frozen BK253.out 2
                        go_wp2
                        go_loopg [8] k3 (fun kq v8 w' => ∃ (x3_4 : List (List Int)) (x8_4 : Int), v8 = .int .i64 x8_4 ∧ Aside0 (marchlandref05_closed.l4 kq x3_4 x6_2 x7_3 x8_4 a0_0 l0_1 l0_2 = some r) ∧ Aside0 (kq ≤ k3) ∧ Aside0 (Kd.S (Kd.slice 22 (Kd.int .u64)) 73 w' w.heap.size (fun _ => True) v255 x3_4) ∧ Aside0 (w'.heap[gb253]? = some (.cells #[.int .i64 a0_0, (.slice A0_1 l0_1.length c0_1), (.slice A0_2 l0_2.length c0_2)] 59 (0, 0))) ∧ Aside0 (Below w.heap.size w w'))
                        case atStart => exact ⟨(x3_3), (0), (by first | rfl | (simp; done) | (simp [*]; done)), H', ⟨Nat.le_refl _⟩, ⟨by (with_reducible repeat (first | apply Kd.S_alloc | apply Kd.S_drewN | apply Kd.S_drew)); exact HO_3.out⟩, ⟨by (with_reducible repeat (first | refine blk_drewN ?_ _ | refine blk_drew ?_ | refine blk_alloc ?_ _)); exact BK253.out⟩, ⟨by repeat (first | (with_reducible first | exact HB.out | apply below_alloc | apply pw_below_drewN | apply below_drew1 | refine below_set ?_ GE253.out) | exact HB.out)⟩⟩
                        case round =>
                          clear H'
                          try clear c1
                          try clear p1
                          try clear q1
                          try clear hx1
                          try clear hf1
                          try clear c2
                          try clear c2b0
                          try clear c2b1
                          try clear p2
                          try clear q2
                          try clear hx2
                          try clear hf2
                          try clear c3
                          try clear c3b0
                          try clear c3b1
                          try clear q3
                          try clear c4
                          try clear p6
                          try clear c7
                          try clear c8
                          try clear c8b0
                          try clear c9
                          try clear c9b0
                          try clear c9b1
                          try clear c10
                          try clear c10b0
                          try clear c10b1
                          try clear c11
                          try clear c11b0
                          try clear c12
                          try clear c12b0
                          try clear c13
                          try clear p13
                          try clear q13
                          try clear hx13
                          try clear hf13
                          try clear c17
                          try clear hx17
                          try clear hf17
                          try clear c19
                          try clear c19b0
                          try clear c20
                          try clear c20b0
                          try clear c21
                          try clear c21b0
                          try clear c22
                          try clear c22b0
                          try clear c23
                          try clear c23b0
                          try clear p24
                          try clear q24
                          try clear hx24
                          try clear hf24
                          try clear c25
                          try clear c25b0
                          try clear c25b1
                          try clear c26
                          try clear c26b0
                          try clear p26
                          try clear q26
                          try clear hx26
                          try clear p27
                          try clear q27
                          try clear hx27
                          try clear hf27
                          try clear c29
                          try clear q29
                          try clear c31
                          try clear q31
                          try clear c34
                          try clear q34
                          try clear c38
                          try clear c38b0
                          try clear c40
                          try clear c40b0
                          try clear hcz14_0
                          try clear hcz14_1
                          try clear hcz14_2
                          try clear hcz28_0
                          try clear hcz28_1
                          try clear hcz28_2
                          try clear hcz33_0
                          try clear hcz33_1
                          try clear hcz33_2
                          try clear hcz36_0
                          try clear hcz36_1
                          try clear hcz36_2
                          try clear hcz37_0
                          try clear hcz37_1
                          try clear hcz37_2
                          try clear hcz39_0
                          try clear hcz39_1
                          try clear hcz39_2
                          try clear hcz41_0
                          try clear hcz41_1
                          try clear hcz41_2
                          try clear hcz5_0
                          try clear hcz5_1
                          try clear hcz5_2
                          try clear hfz14_0
                          try clear hfz14_1
                          try clear hfz14_2
                          try clear hfz28_0
                          try clear hfz28_1
                          try clear hfz28_2
                          try clear hfz33_0
                          try clear hfz33_1
                          try clear hfz33_2
                          try clear hfz36_0
                          try clear hfz36_1
                          try clear hfz36_2
                          try clear hfz37_0
                          try clear hfz37_1
                          try clear hfz37_2
                          try clear hfz39_0
                          try clear hfz39_1
                          try clear hfz39_2
                          try clear hfz41_0
                          try clear hfz41_1
                          try clear hfz41_2
                          try clear hfz5_0
                          try clear hfz5_1
                          try clear hfz5_2
                          try clear hx13_0
                          try clear hx17_0
                          try clear hx24_0
                          try clear hx261_0
                          try clear hx265_0
                          try clear hx27_0
                          try clear p1
                          try clear p13
                          try clear p2
                          try clear p24
                          try clear p26
                          try clear p261
                          try clear p265
                          try clear p27
                          try clear p6
                          try clear q1
                          try clear q13
                          try clear q2
                          try clear q24
                          try clear q26
                          try clear q261
                          try clear q265
                          try clear q27
                          try clear q29
                          try clear q3
                          try clear q31
                          try clear q34
                          obtain ⟨x3_4, x8_4, rfl, HA, HK4, HO_3, BK253, HB⟩ := hrel
                          cases gk with
                          | zero => exact absurd HA.out (by simp [marchlandref05_closed.l4])
                          | succ k4 =>
                            have H := HA.out
                            clear HA
                            simp only [marchlandref05_closed.l4] at H
                            by_cases c42 : x8_4 < (l0_1.length : Int)
                            · rw [if_pos c42] at H
                              have c42b0 : decide (x8_4 < (l0_1.length : Int)) = true := decide_eq_true c42
                              clear c42
                              by_cases c43 : 0 ≤ x8_4
                              · rw [if_pos c43] at H
                                have c43b0 : decide (0 ≤ x8_4) = true := decide_eq_true c43
                                clear c43
                                by_cases c44 : 0 ≤ x7_3
                                · rw [if_pos c44] at H
                                  have c44b0 : decide (0 ≤ x7_3) = true := decide_eq_true c44
                                  clear c44
                                  by_cases c45 : x7_3 < (x3_4.length : Int)
                                  · rw [if_pos c45] at H
                                    have c45b0 : decide (x7_3 < (x3_4.length : Int)) = true := decide_eq_true c45
                                    clear c45
                                    by_cases c46 : 0 ≤ ((rd_T75 l0_1 x8_4).f0)
                                    · rw [if_pos c46] at H
                                      have c46b0 : decide (0 ≤ ((rd_T75 l0_1 x8_4).f0)) = true := decide_eq_true c46
                                      clear c46
                                      by_cases c47 : ((rd_T75 l0_1 x8_4).f0) < ((rd_L8 x3_4 x7_3).length : Int)
                                      · rw [if_pos c47] at H
                                        have c47b0 : decide (((rd_T75 l0_1 x8_4).f0) < ((rd_L8 x3_4 x7_3).length : Int)) = true := decide_eq_true c47
                                        clear c47
                                        replace H := Option.bind_eq_some_iff.mp H
                                        obtain ⟨t273, A480, H⟩ := H
                                        replace H : (if 0 ≤ ((rd_T75 l0_1 x8_4).f1) then (if ((rd_T75 l0_1 x8_4).f1) < ((rd_L8 x3_4 x7_3).length : Int) then (if t273 < (rd (rd_L8 x3_4 x7_3) ((rd_T75 l0_1 x8_4).f1)) then (marchlandref05_closed.l4 k4 (x3_4.set (x7_3 : Int).toNat ((rd_L8 x3_4 x7_3).set (((rd_T75 l0_1 x8_4).f1) : Int).toNat t273)) x6_2 x7_3 (wrap64 (x8_4 + 1)) a0_0 l0_1 l0_2) else (marchlandref05_closed.l4 k4 x3_4 x6_2 x7_3 (wrap64 (x8_4 + 1)) a0_0 l0_1 l0_2)) else (none)) else (none)) = some r := H
                                        have A48 := Aside0.mk A480
                                        clear A480
                                        by_cases c49 : 0 ≤ ((rd_T75 l0_1 x8_4).f1)
                                        · rw [if_pos c49] at H
                                          have c49b0 : decide (0 ≤ ((rd_T75 l0_1 x8_4).f1)) = true := decide_eq_true c49
                                          clear c49
                                          by_cases c50 : ((rd_T75 l0_1 x8_4).f1) < ((rd_L8 x3_4 x7_3).length : Int)
                                          · rw [if_pos c50] at H
                                            have c50b0 : decide (((rd_T75 l0_1 x8_4).f1) < ((rd_L8 x3_4 x7_3).length : Int)) = true := decide_eq_true c50
                                            clear c50
                                            by_cases c51 : t273 < (rd (rd_L8 x3_4 x7_3) ((rd_T75 l0_1 x8_4).f1))
                                            · rw [if_pos c51] at H
                                              have c51b0 : decide (t273 < (rd (rd_L8 x3_4 x7_3) ((rd_T75 l0_1 x8_4).f1))) = true := decide_eq_true c51
                                              clear c51
                                              obtain ⟨y277, hy277⟩ : ∃ y_ : List Int, y_ = ((rd_L8 x3_4 x7_3).set (((rd_T75 l0_1 x8_4).f1) : Int).toNat t273) := ⟨_, rfl⟩
                                              replace H : (marchlandref05_closed.l4 k4 (x3_4.set (x7_3 : Int).toNat y277) x6_2 x7_3 (wrap64 (x8_4 + 1)) a0_0 l0_1 l0_2) = some r := by first | (rw [hy277]; with_reducible exact H) | (have H2_ := (Option.bind_some _ _).symm.trans H; rw [hy277]; with_reducible exact H2_) | (have H2_ := (Option.bind_some _ _).symm.trans H; with_reducible exact H2_) | with_reducible exact H | (rw [hy277]; exact H) | exact H
                                              have Ny277 := Aside0.mk hy277
                                              clear hy277
                                              obtain ⟨y279, hy279⟩ : ∃ y_ : List (List Int), y_ = (x3_4.set (x7_3 : Int).toNat y277) := ⟨_, rfl⟩
                                              replace H : (marchlandref05_closed.l4 k4 y279 x6_2 x7_3 (wrap64 (x8_4 + 1)) a0_0 l0_1 l0_2) = some r := by first | (rw [hy279]; with_reducible exact H) | (have H2_ := (Option.bind_some _ _).symm.trans H; rw [hy279]; with_reducible exact H2_) | (have H2_ := (Option.bind_some _ _).symm.trans H; with_reducible exact H2_) | with_reducible exact H | (rw [hy279]; exact H) | exact H
                                              have Ny279 := Aside0.mk hy279
                                              clear hy279
                                              have H' := Aside0.mk H
                                              clear H
                                              have hcz53_0 : wr.cell? ⟨gb253, 0, none⟩ = some (.int .i64 a0_0) := (blk_cell BK253.out 0).trans rfl
                                              have hcz53_1 : wr.cell? ⟨gb253, 1, none⟩ = some (.slice A0_1 l0_1.length c0_1) := (blk_cell BK253.out 1).trans rfl
                                              have hcz53_2 : wr.cell? ⟨gb253, 2, none⟩ = some (.slice A0_2 l0_2.length c0_2) := (blk_cell BK253.out 2).trans rfl
                                              have hfz53_0 := blk_frozen BK253.out 0
                                              have hfz53_1 := blk_frozen BK253.out 1
                                              have hfz53_2 := blk_frozen BK253.out 2
                                              have p269 : 0 ≤ (x8_4 : Int) := of_decide_eq_true (by first | (with_reducible assumption) | assumption)
                                              have q269 : x8_4 < (l0_1.length : Int) := of_decide_eq_true (by first | (with_reducible assumption) | assumption)
                                              obtain ⟨ad269, e269, hx269_0, hx269_1, hx269_2⟩ := at_T75 HR0_1.out x8_4 p269 q269
                                              cases e269
                                              replace hx269_0 := (HB.out.cell (World.block_lt_of_cell? w _ hx269_0)).trans hx269_0
                                              replace hx269_1 := (HB.out.cell (World.block_lt_of_cell? w _ hx269_1)).trans hx269_1
                                              replace hx269_2 := (HB.out.cell (World.block_lt_of_cell? w _ hx269_2)).trans hx269_2
                                              replace p269 := eq_true p269
                                              replace q269 := eq_true q269
                                              try go_wp2_with (first | ((with_reducible refine gate_dst (N := 9) rfl ?_); refine box_event ?hg (N := 9) ?hd (cs := #[.int .i64 0, .int .i64 0, .int .u64 0]) (t := 75) ?hr ?_; (case hd => rfl); (case hg => rfl); (case hr => first | (go_simp; done) | (go_simp; rfl)); intro gb270 hg w54 hbox hb; have n0_ := Aside0.mk (Kd.S_below (by (with_reducible repeat (first | apply Kd.S_alloc | apply Kd.S_drewN | apply Kd.S_drew)); exact HO_3.out) hb); have n1_ := Aside0.mk (blk_below (g := gb253) (o := .cells #[.int .i64 a0_0, .slice (some ad269) l0_1.length c0_1, .slice A0_2 l0_2.length c0_2] 59 (0, 0)) (by (with_reducible repeat (first | refine blk_drewN ?_ _ | refine blk_drew ?_ | refine blk_alloc ?_ _)); exact BK253.out) hb); have n2_ := Aside0.mk (below_step (by repeat (first | (with_reducible first | exact HB.out | apply below_alloc | apply pw_below_drewN | apply below_drew1 | refine below_set ?_ GE253.out) | exact HB.out)) hb); have n3_ := Aside0.mk (hbox); have n4_ := Aside0.mk ((by rw [hg]; exact (below_size (by repeat (first | (with_reducible first | exact HB.out | apply below_alloc | apply pw_below_drewN | apply below_drew1 | refine below_set ?_ GE253.out) | exact HB.out))) : w.heap.size ≤ gb270)); have n5_ := Aside0.mk ((by rw [hg]; exact (below_size (by repeat (first | (with_reducible first | exact HB.out | apply below_alloc | apply pw_below_drewN | apply below_drew1 | refine below_set ?_ GE253.out) | exact HB.out))) : w.heap.size ≤ gb270)); have n6_ := Aside0.mk ((by rw [hg]; exact Nat.ne_of_lt (blk_lt (g := gb253) (o := .cells #[.int .i64 a0_0, .slice (some ad269) l0_1.length c0_1, .slice A0_2 l0_2.length c0_2] 59 (0, 0)) (by (with_reducible repeat (first | refine blk_drewN ?_ _ | refine blk_drew ?_ | refine blk_alloc ?_ _)); exact BK253.out)) : gb253 ≠ gb270)); have n7_ := Aside0.mk ((by rw [hg]; exact Nat.ne_of_gt (blk_lt (g := gb253) (o := .cells #[.int .i64 a0_0, .slice (some ad269) l0_1.length c0_1, .slice A0_2 l0_2.length c0_2] 59 (0, 0)) (by (with_reducible repeat (first | refine blk_drewN ?_ _ | refine blk_drew ?_ | refine blk_alloc ?_ _)); exact BK253.out)) : gb270 ≠ gb253)); clear HO_3; clear BK253; clear HB; have HO_3 := n0_; have BK253 := n1_; have HB := n2_; have BK270 := n3_; have GW270 := n4_; have GE270 := n5_; have NB253_270 := n6_; have NB270_253 := n7_; clear n0_ n1_ n2_ n3_ n4_ n5_ n6_ n7_; clear hb hbox hg; have hnb55 := NB270_253.out; have hnc55 := NB253_270.out; have hcz56_0 : w54.cell? ⟨gb270, 0, none⟩ = some (.int .i64 0) := (blk_cell BK270.out 0).trans rfl; have hcz56_1 : w54.cell? ⟨gb270, 1, none⟩ = some (.int .i64 0) := (blk_cell BK270.out 1).trans rfl; have hcz56_2 : w54.cell? ⟨gb270, 2, none⟩ = some (.int .u64 0) := (blk_cell BK270.out 2).trans rfl; have hfz56_0 := blk_frozen BK270.out 0; have hfz56_1 := blk_frozen BK270.out 1; have hfz56_2 := blk_frozen BK270.out 2))
                                              have n0_ : Aside0 (Kd.S (Kd.slice 22 (Kd.int .u64)) 73 (((w54.setCell ⟨gb270, 0, none⟩ (.int .i64 ((rd_T75 l0_1 x8_4).f0))).setCell ⟨gb270, 1, none⟩ (.int .i64 ((rd_T75 l0_1 x8_4).f1))).setCell ⟨gb270, 2, none⟩ (.int .u64 ((rd_T75 l0_1 x8_4).f2))) w.heap.size (fun _ => True) v255 x3_4) := ⟨by (with_reducible repeat (first | apply Kd.S_alloc | apply Kd.S_drewN | apply Kd.S_drew)); exact Kd.S_mono (Kd.S_far (p := ⟨gb270, 2, none⟩) (Kd.S_far (p := ⟨gb270, 1, none⟩) (Kd.S_far (p := ⟨gb270, 0, none⟩) (Kd.S_types HO_3.out BK270.out (by decide)) (fun _ hk => hk.2) (.int .i64 ((rd_T75 l0_1 x8_4).f0))) (fun _ hk => hk.2) (.int .i64 ((rd_T75 l0_1 x8_4).f1))) (fun _ hk => hk.2) (.int .u64 ((rd_T75 l0_1 x8_4).f2))) (fun _ hk => trivial)⟩
                                              have n1_ : Aside0 ((((w54.setCell ⟨gb270, 0, none⟩ (.int .i64 ((rd_T75 l0_1 x8_4).f0))).setCell ⟨gb270, 1, none⟩ (.int .i64 ((rd_T75 l0_1 x8_4).f1))).setCell ⟨gb270, 2, none⟩ (.int .u64 ((rd_T75 l0_1 x8_4).f2))).heap[gb253]? = some (.cells #[.int .i64 a0_0, .slice (some ad269) l0_1.length c0_1, .slice A0_2 l0_2.length c0_2] 59 (0, 0))) := ⟨by (with_reducible repeat (first | refine blk_drewN ?_ _ | refine blk_drew ?_ | refine blk_alloc ?_ _)); refine blk_far ?_ NB253_270.out _; (with_reducible repeat (first | refine blk_drewN ?_ _ | refine blk_drew ?_ | refine blk_alloc ?_ _)); refine blk_far ?_ NB253_270.out _; (with_reducible repeat (first | refine blk_drewN ?_ _ | refine blk_drew ?_ | refine blk_alloc ?_ _)); refine blk_far ?_ NB253_270.out _; (with_reducible repeat (first | refine blk_drewN ?_ _ | refine blk_drew ?_ | refine blk_alloc ?_ _)); exact BK253.out⟩
                                              have n2_ : Aside0 ((((w54.setCell ⟨gb270, 0, none⟩ (.int .i64 ((rd_T75 l0_1 x8_4).f0))).setCell ⟨gb270, 1, none⟩ (.int .i64 ((rd_T75 l0_1 x8_4).f1))).setCell ⟨gb270, 2, none⟩ (.int .u64 ((rd_T75 l0_1 x8_4).f2))).heap[gb270]? = some (.cells #[.int .i64 ((rd_T75 l0_1 x8_4).f0), .int .i64 ((rd_T75 l0_1 x8_4).f1), .int .u64 ((rd_T75 l0_1 x8_4).f2)] 75 (0, 0))) := ⟨by (with_reducible repeat (first | refine blk_drewN ?_ _ | refine blk_drew ?_ | refine blk_alloc ?_ _)); refine blk_put (cs := #[.int .i64 ((rd_T75 l0_1 x8_4).f0), .int .i64 ((rd_T75 l0_1 x8_4).f1), .int .u64 0]) ?_ 2 _ rfl; (with_reducible repeat (first | refine blk_drewN ?_ _ | refine blk_drew ?_ | refine blk_alloc ?_ _)); refine blk_put (cs := #[.int .i64 ((rd_T75 l0_1 x8_4).f0), .int .i64 0, .int .u64 0]) ?_ 1 _ rfl; (with_reducible repeat (first | refine blk_drewN ?_ _ | refine blk_drew ?_ | refine blk_alloc ?_ _)); refine blk_put (cs := #[.int .i64 0, .int .i64 0, .int .u64 0]) ?_ 0 _ rfl; (with_reducible repeat (first | refine blk_drewN ?_ _ | refine blk_drew ?_ | refine blk_alloc ?_ _)); exact BK270.out⟩
                                              have n3_ : Aside0 (Below w.heap.size w (((w54.setCell ⟨gb270, 0, none⟩ (.int .i64 ((rd_T75 l0_1 x8_4).f0))).setCell ⟨gb270, 1, none⟩ (.int .i64 ((rd_T75 l0_1 x8_4).f1))).setCell ⟨gb270, 2, none⟩ (.int .u64 ((rd_T75 l0_1 x8_4).f2)))) := ⟨by repeat (first | (with_reducible first | exact HB.out | apply below_alloc | apply pw_below_drewN | apply below_drew1 | refine below_set ?_ GE253.out | refine below_set ?_ GE270.out) | exact HB.out)⟩
                                              (try clear HO_3)
                                              (try clear BK253)
                                              (try clear BK270)
                                              (try clear HB)
                                              generalize (((w54.setCell ⟨gb270, 0, none⟩ (.int .i64 ((rd_T75 l0_1 x8_4).f0))).setCell ⟨gb270, 1, none⟩ (.int .i64 ((rd_T75 l0_1 x8_4).f1))).setCell ⟨gb270, 2, none⟩ (.int .u64 ((rd_T75 l0_1 x8_4).f2))) = w57 at n0_ n1_ n2_ n3_ ⊢
                                              have HO_3 := n0_
                                              have BK253 := n1_
                                              have BK270 := n2_
                                              have HB := n3_
                                              clear n0_ n1_ n2_ n3_
                                              have n0_ := Aside0.mk (Kd.S_drew HO_3.out)
                                              have n1_ := Aside0.mk (blk_drew BK253.out)
                                              have n2_ := Aside0.mk (blk_drew BK270.out)
                                              have n3_ := Aside0.mk (below_drew1 HB.out)
                                              clear HO_3
                                              clear BK253
                                              clear BK270
                                              clear HB
                                              have HO_3 := n0_
                                              have BK253 := n1_
                                              have BK270 := n2_
                                              have HB := n3_
                                              clear n0_ n1_ n2_ n3_
                                              obtain ⟨Ao59, co59, eo59⟩ := Kd.S_slice HO_3.out
                                              (first | subst eo59 | (injection eo59 with f1_ f2_ f3_; have f4_ := f1_.symm; have f5_ := f3_.symm; clear f1_ f2_ f3_; subst f4_; subst f5_))
                                              have p271 : 0 ≤ (x7_3 : Int) := of_decide_eq_true (by first | (with_reducible assumption) | assumption)
                                              have q271 : x7_3 < (x3_4.length : Int) := of_decide_eq_true (by first | (with_reducible assumption) | assumption)
                                              obtain ⟨ad271, A271_0, c271_0, e271, hx271_0, hl271_0, hi271_0⟩ := at_L8 (Kd.S_reads' HO_3.out).2.2 x7_3 p271 q271
                                              cases e271
                                              obtain ⟨ce271, hce271, hMe271, hcc271⟩ := Kd.S_get HO_3.out [] x7_3 p271 (by first | exact q271 | exact of_decide_eq_true (by first | (with_reducible assumption) | assumption) | (have e_ := (Kd.S_reads' HO_3.out).1; omega))
                                              obtain ⟨ve271_0, rfl, ge271_0⟩ := hMe271
                                              have hv271_0 := hcc271 0 _ rfl
                                              rw [Nat.add_zero, show ((Kd.slice 22 (Kd.int .u64))).sz = 1 from rfl, Nat.mul_one] at hv271_0
                                              replace hv271_0 := Option.some.inj (hv271_0.symm.trans hx271_0)
                                              rw [hv271_0] at ge271_0
                                              have HL271_0 := Aside0.mk (show Kd.R (Kd.int .u64) 22 _ _ _ _ (rd_L8 x3_4 x7_3) from ge271_0)
                                              clear hv271_0 ge271_0
                                              have HX271_0 := Aside0.mk hx271_0
                                              clear hcc271 hce271
                                              have HR271_0 := Aside0.mk hi271_0
                                              have HC271_0 := Aside0.mk hl271_0
                                              clear hi271_0 hl271_0
                                              replace p271 := eq_true p271
                                              replace q271 := eq_true q271
                                              have p272 : 0 ≤ (((rd_T75 l0_1 x8_4).f0) : Int) := of_decide_eq_true (by first | (with_reducible assumption) | assumption)
                                              have q272 : ((rd_T75 l0_1 x8_4).f0) < ((rd_L8 x3_4 x7_3).length : Int) := of_decide_eq_true (by first | (with_reducible assumption) | assumption)
                                              obtain ⟨ad272, e272, hx272_0⟩ := Kd.at_int (by repeat (first | (with_reducible exact HR271_0.out) | (with_reducible refine Kd.C_alloc ?_ _) | (with_reducible refine Kd.C_drewN ?_ _) | (with_reducible refine Kd.C_drew ?_) | exact HR271_0.out)) ((rd_T75 l0_1 x8_4).f0) p272 q272
                                              cases e272
                                              replace p272 := eq_true p272
                                              replace q272 := eq_true q272
                                              refine start_ (n := 12) (S := fun w' => w'.cell? ⟨gb270, 0, none⟩ = some (.int .i64 ((rd_T75 l0_1 x8_4).f0)) ∧ w'.cell? ⟨gb270, 1, none⟩ = some (.int .i64 ((rd_T75 l0_1 x8_4).f1)) ∧ w'.cell? ⟨gb270, 2, none⟩ = some (.int .u64 ((rd_T75 l0_1 x8_4).f2)) ∧ w'.cell? (ad271.add (x7_3).toNat) = some (.slice (some ad272) (rd_L8 x3_4 x7_3).length c271_0) ∧ w'.cell? (ad272.add (((rd_T75 l0_1 x8_4).f0)).toNat) = some (.int .u64 (rd (rd_L8 x3_4 x7_3) ((rd_T75 l0_1 x8_4).f0)))) (ds := []) #[false, false, false, false, false, false, false, false, false, false, false, false] (by kernel_rfl) rfl rfl ⟨(blk_cell BK270.out 0).trans rfl, (blk_cell BK270.out 1).trans rfl, (blk_cell BK270.out 2).trans rfl, hx271_0, hx272_0⟩ (fun hHeld => ?_); refine with_tabW marchlandref05_closed.tab22 marchlandref05_closed.bits22 (fun HT_ HW_ => ?_)
                                              generalize w57.drew = w58 at HO_3 BK253 BK270 HB HL271_0 HR271_0 HX271_0 hx271_0 hx272_0 hHeld ⊢
                                              refine pure_ (i := 0) (N := some 71) (v := ?_) (a' := ?_) #[true, false, false, false, false, false, false, false, false, false, false, false] rfl rfl (any_of HT_.out (by kernel_rfl)) (fun _ _ _ h => h) (Or.inl ⟨by rfl, ?_⟩) ?_ ?_
                                              rotate_left
                                              · intro w'
                                                go_simp
                                                with_reducible rfl
                                              rotate_left
                                              · simp only [Act.put, List.setIfInBounds_toArray, List.set_cons_zero, List.set_cons_succ, i64_w, i32_w]
                                                rfl
                                              refine pure_ (i := 1) (N := some 72) (v := ?_) (a' := ?_) #[true, true, false, false, false, false, false, false, false, false, false, false] rfl rfl (any_of HT_.out (by kernel_rfl)) (fun _ _ _ h => h) (Or.inl ⟨by rfl, ?_⟩) ?_ ?_
                                              rotate_left
                                              · intro w'
                                                go_simp
                                                with_reducible rfl
                                              rotate_left
                                              · simp only [Act.put, List.setIfInBounds_toArray, List.set_cons_zero, List.set_cons_succ, i64_w, i32_w]
                                                rfl
                                              refine pure_ (i := 2) (N := some 73) (v := ?_) (a' := ?_) #[true, true, true, false, false, false, false, false, false, false, false, false] rfl rfl (any_of HT_.out (by kernel_rfl)) (fun _ _ _ h => h) (Or.inl ⟨by rfl, ?_⟩) ?_ ?_
                                              rotate_left
                                              · intro w'
                                                go_simp
                                                with_reducible rfl
                                              rotate_left
                                              · simp only [Act.put, List.setIfInBounds_toArray, List.set_cons_zero, List.set_cons_succ, i64_w, i32_w]
                                                rfl
                                              refine pure_ (i := 4) (N := some 75) (v := ?_) (a' := ?_) #[true, true, true, false, true, false, false, false, false, false, false, false] rfl rfl (any_of HT_.out (by kernel_rfl)) (fun _ _ _ h => h) (Or.inl ⟨by rfl, ?_⟩) ?_ ?_
                                              rotate_left
                                              · intro w'
                                                go_simp
                                                with_reducible rfl
                                              rotate_left
                                              · simp only [Act.put, List.setIfInBounds_toArray, List.set_cons_zero, List.set_cons_succ, i64_w, i32_w]
                                                rfl
                                              refine pure_ (i := 8) (N := some 79) (v := ?_) (a' := ?_) #[true, true, true, false, true, false, false, false, true, false, false, false] rfl rfl (any_of HT_.out (by kernel_rfl)) (fun _ _ _ h => h) (Or.inl ⟨by rfl, ?_⟩) ?_ ?_
                                              rotate_left
                                              · intro w'
                                                go_simp
                                                with_reducible rfl
                                              rotate_left
                                              · simp only [Act.put, List.setIfInBounds_toArray, List.set_cons_zero, List.set_cons_succ, i64_w, i32_w]
                                                rfl
                                              refine take_ (i := 3) (N := some 74) (v := ?_) (a' := ?_) #[true, true, true, true, true, false, false, false, true, false, false, false] rfl rfl (take_ofW HT_.out HW_.out (by kernel_rfl)) (fun _ _ _ h => h) (Or.inl ⟨by rfl, ?_⟩) hHeld ?_ ?_
                                              rotate_left
                                              · rintro w' ⟨s0, s1, s2, s3, s4⟩
                                                go_simp
                                                with_reducible rfl
                                              rotate_left
                                              · simp only [Act.put, List.setIfInBounds_toArray, List.set_cons_zero, List.set_cons_succ, i64_w, i32_w]
                                                rfl
                                              refine take_ (i := 5) (N := some 76) (v := ?_) (a' := ?_) #[true, true, true, true, true, true, false, false, true, false, false, false] rfl rfl (take_ofW HT_.out HW_.out (by kernel_rfl)) (fun _ _ _ h => h) (Or.inl ⟨by rfl, ?_⟩) hHeld ?_ ?_
                                              rotate_left
                                              · rintro w' ⟨s0, s1, s2, s3, s4⟩
                                                go_simp
                                                with_reducible rfl
                                              rotate_left
                                              · simp only [Act.put, List.setIfInBounds_toArray, List.set_cons_zero, List.set_cons_succ, i64_w, i32_w]
                                                rfl
                                              refine pure_ (i := 6) (N := some 77) (v := ?_) (a' := ?_) #[true, true, true, true, true, true, true, false, true, false, false, false] rfl rfl (any_of HT_.out (by kernel_rfl)) (fun _ _ _ h => h) (Or.inl ⟨by rfl, ?_⟩) ?_ ?_
                                              rotate_left
                                              · intro w'
                                                go_simp
                                                with_reducible rfl
                                              rotate_left
                                              · simp only [Act.put, List.setIfInBounds_toArray, List.set_cons_zero, List.set_cons_succ, i64_w, i32_w]
                                                rfl
                                              refine take_ (i := 7) (N := some 78) (v := ?_) (a' := ?_) #[true, true, true, true, true, true, true, true, true, false, false, false] rfl rfl (take_ofW HT_.out HW_.out (by kernel_rfl)) (fun _ _ _ h => h) (Or.inl ⟨by rfl, ?_⟩) hHeld ?_ ?_
                                              rotate_left
                                              · rintro w' ⟨s0, s1, s2, s3, s4⟩
                                                go_simp
                                                with_reducible rfl
                                              rotate_left
                                              · simp only [Act.put, List.setIfInBounds_toArray, List.set_cons_zero, List.set_cons_succ, i64_w, i32_w]
                                                rfl
                                              refine take_ (i := 9) (N := some 80) (v := ?_) (a' := ?_) #[true, true, true, true, true, true, true, true, true, true, false, false] rfl rfl (take_ofW HT_.out HW_.out (by kernel_rfl)) (fun _ _ _ h => h) (Or.inl ⟨by rfl, ?_⟩) hHeld ?_ ?_
                                              rotate_left
                                              · rintro w' ⟨s0, s1, s2, s3, s4⟩
                                                go_simp
                                                with_reducible rfl
                                              rotate_left
                                              · simp only [Act.put, List.setIfInBounds_toArray, List.set_cons_zero, List.set_cons_succ, i64_w, i32_w]
                                                rfl
                                              refine one_ (i := 10) (N := some 81) #[true, true, true, true, true, true, true, true, true, true, true, false] rfl rfl (one_of HT_.out (by kernel_rfl)) (by decide) (fun K hK => ?_)
                                              refine goes_ Tryd.func14 (by kernel_rfl) rfl #[.int .u64 (rd (rd_L8 x3_4 x7_3) ((rd_T75 l0_1 x8_4).f0)), .int .u64 ((rd_T75 l0_1 x8_4).f2)] (by rfl) rfl rfl (by (try simp only [List.map_toArray, List.map_cons, List.map_nil]); first | done | rfl | (simp only [List.length_drop, List.length_take]; rfl)) ?_
                                              with_reducible refine (marchlandref01_Plus.calls (rd (rd_L8 x3_4 x7_3) ((rd_T75 l0_1 x8_4).f0)) ((rd_T75 l0_1 x8_4).f2) t273 _ A48.out).mono ?_
                                              rintro e w' ⟨rfl, ⟨nd, rfl⟩⟩
                                              refine ⟨_, rfl, ?_⟩
                                              refine hK.out _ _ ⟨(blk_cell BK270.out 0).trans rfl, (blk_cell BK270.out 1).trans rfl, (blk_cell BK270.out 2).trans rfl, hHeld.2.2.2.1, hHeld.2.2.2.2⟩ (fun hHeld => ?_)
                                              clear hK K
                                              refine norm_ (a' := ?_) ?_ ?_
                                              rotate_left
                                              · show Act.put _ (some 81) _ = _
                                                simp only [Act.put, List.setIfInBounds_toArray, List.set_cons_zero, List.set_cons_succ, i64_w, i32_w]
                                                rfl
                                              refine pure_ (i := 11) (N := some 10) (v := ?_) (a' := ?_) #[true, true, true, true, true, true, true, true, true, true, true, true] rfl rfl (any_of HT_.out (by kernel_rfl)) (fun _ _ _ h => h) (Or.inl ⟨by rfl, ?_⟩) ?_ ?_
                                              rotate_left
                                              · intro w'
                                                go_simp
                                                with_reducible rfl
                                              rotate_left
                                              · simp only [Act.put, List.setIfInBounds_toArray, List.set_cons_zero, List.set_cons_succ, i64_w, i32_w]
                                                rfl
                                              refine done_ (done_of HT_.out (by kernel_rfl)) ?_
                                              try go_wp2
                                              (try (rw [drewN_self w58]; generalize hq_ : World.drewN w58 _ = w58; have n0_ : Aside0 (Kd.R (Kd.int .u64) 22 w58 w.heap.size (fun k_ => some k_ ≠ (.slice (some ad271) x3_4.length co59 : Value).ownBlock) (.slice (some ad272) (rd_L8 x3_4 x7_3).length c271_0) (rd_L8 x3_4 x7_3)) := ⟨by rw [← hq_]; exact (by (with_reducible repeat (first | apply Kd.R_alloc | apply Kd.R_drewN | apply Kd.R_drew)); exact Kd.R_mono HL271_0.out (fun _ hk => hk.2))⟩; have n1_ : Aside0 (Kd.S (Kd.slice 22 (Kd.int .u64)) 73 w58 w.heap.size (fun _ => True) (.slice (some ad271) x3_4.length co59) x3_4) := ⟨by rw [← hq_]; exact (by (with_reducible repeat (first | apply Kd.S_alloc | apply Kd.S_drewN | apply Kd.S_drew)); exact HO_3.out)⟩; have n2_ : Aside0 (w58.heap[gb253]? = some (.cells #[.int .i64 a0_0, .slice (some ad269) l0_1.length c0_1, .slice A0_2 l0_2.length c0_2] 59 (0, 0))) := ⟨by rw [← hq_]; exact (by (with_reducible repeat (first | refine blk_drewN ?_ _ | refine blk_drew ?_ | refine blk_alloc ?_ _)); exact BK253.out)⟩; have n3_ : Aside0 (w58.heap[gb270]? = some (.cells #[.int .i64 ((rd_T75 l0_1 x8_4).f0), .int .i64 ((rd_T75 l0_1 x8_4).f1), .int .u64 ((rd_T75 l0_1 x8_4).f2)] 75 (0, 0))) := ⟨by rw [← hq_]; exact (by (with_reducible repeat (first | refine blk_drewN ?_ _ | refine blk_drew ?_ | refine blk_alloc ?_ _)); exact BK270.out)⟩; have n4_ : Aside0 (Below w.heap.size w w58) := ⟨by rw [← hq_]; exact (by repeat (first | (with_reducible first | exact HB.out | apply below_alloc | apply pw_below_drewN | apply below_drew1 | refine below_set ?_ GE253.out | refine below_set ?_ GE270.out) | exact HB.out))⟩; have n5_ : Aside0 (Kd.C (Kd.int .u64) w58 (some ad272) (rd_L8 x3_4 x7_3).length (rd_L8 x3_4 x7_3)) := ⟨by rw [← hq_]; exact (by repeat (first | (with_reducible exact HR271_0.out) | (with_reducible refine Kd.C_alloc ?_ _) | (with_reducible refine Kd.C_drewN ?_ _) | (with_reducible refine Kd.C_drew ?_) | exact HR271_0.out))⟩; clear HL271_0 HO_3 BK253 BK270 HB HR271_0 hq_; have HL271_0 := n0_; have HO_3 := n1_; have BK253 := n2_; have BK270 := n3_; have HB := n4_; have HR271_0 := n5_; clear n0_ n1_ n2_ n3_ n4_ n5_))
                                              have n0_ := Aside0.mk (Kd.S_drew HO_3.out)
                                              have n1_ := Aside0.mk (Kd.R_drew HL271_0.out)
                                              have n2_ := Aside0.mk (blk_drew BK253.out)
                                              have n3_ := Aside0.mk (blk_drew BK270.out)
                                              have n4_ := Aside0.mk (Kd.C_drew HR271_0.out)
                                              have n5_ := Aside0.mk (below_drew1 HB.out)
                                              clear HO_3
                                              clear HL271_0
                                              clear BK253
                                              clear BK270
                                              clear HR271_0
                                              clear HB
                                              have HO_3 := n0_
                                              have HL271_0 := n1_
                                              have BK253 := n2_
                                              have BK270 := n3_
                                              have HR271_0 := n4_
                                              have HB := n5_
                                              clear n0_ n1_ n2_ n3_ n4_ n5_
                                              have p274 : 0 ≤ (x7_3 : Int) := of_decide_eq_true (by first | (with_reducible assumption) | assumption)
                                              have q274 : x7_3 < (x3_4.length : Int) := of_decide_eq_true (by first | (with_reducible assumption) | assumption)
                                              obtain ⟨ad274, A274_0, c274_0, e274, hx274_0, hl274_0, hi274_0⟩ := at_L8 (Kd.S_reads' HO_3.out).2.2 x7_3 p274 q274
                                              obtain rfl : ad271 = ad274 := (by injection e274)
                                              obtain ⟨ce274, hce274, hMe274, hcc274⟩ := Kd.S_get HO_3.out [] x7_3 p274 (by first | exact q274 | exact of_decide_eq_true (by first | (with_reducible assumption) | assumption) | (have e_ := (Kd.S_reads' HO_3.out).1; omega))
                                              obtain ⟨ve274_0, rfl, ge274_0⟩ := hMe274
                                              have hv274_0 := hcc274 0 _ rfl
                                              rw [Nat.add_zero, show ((Kd.slice 22 (Kd.int .u64))).sz = 1 from rfl, Nat.mul_one] at hv274_0
                                              replace hv274_0 := Option.some.inj (hv274_0.symm.trans hx274_0)
                                              rw [hv274_0] at ge274_0
                                              have HL274_0 := Aside0.mk (show Kd.R (Kd.int .u64) 22 _ _ _ _ (rd_L8 x3_4 x7_3) from ge274_0)
                                              clear hv274_0 ge274_0
                                              have HX274_0 := Aside0.mk hx274_0
                                              clear hcc274 hce274
                                              have HR274_0 := Aside0.mk hi274_0
                                              have HC274_0 := Aside0.mk hl274_0
                                              clear hi274_0 hl274_0
                                              replace p274 := eq_true p274
                                              replace q274 := eq_true q274
                                              have p275 : 0 ≤ (((rd_T75 l0_1 x8_4).f1) : Int) := of_decide_eq_true (by first | (with_reducible assumption) | assumption)
                                              have q275 : ((rd_T75 l0_1 x8_4).f1) < ((rd_L8 x3_4 x7_3).length : Int) := of_decide_eq_true (by first | (with_reducible assumption) | assumption)
                                              obtain ⟨ad275, e275, hx275_0⟩ := Kd.at_int (by repeat (first | (with_reducible exact HR274_0.out) | (with_reducible refine Kd.C_alloc ?_ _) | (with_reducible refine Kd.C_drewN ?_ _) | (with_reducible refine Kd.C_drew ?_) | exact HR274_0.out)) ((rd_T75 l0_1 x8_4).f1) p275 q275
                                              cases e275
                                              replace p275 := eq_true p275
                                              replace q275 := eq_true q275
                                              refine start_ (n := 10) (S := fun w' => w'.cell? ⟨gb270, 0, none⟩ = some (.int .i64 ((rd_T75 l0_1 x8_4).f0)) ∧ w'.cell? ⟨gb270, 1, none⟩ = some (.int .i64 ((rd_T75 l0_1 x8_4).f1)) ∧ w'.cell? ⟨gb270, 2, none⟩ = some (.int .u64 ((rd_T75 l0_1 x8_4).f2)) ∧ w'.cell? (ad271.add (x7_3).toNat) = some (.slice (some ad275) (rd_L8 x3_4 x7_3).length c274_0) ∧ w'.cell? (ad275.add (((rd_T75 l0_1 x8_4).f1)).toNat) = some (.int .u64 (rd (rd_L8 x3_4 x7_3) ((rd_T75 l0_1 x8_4).f1)))) (ds := []) #[false, false, false, false, false, false, false, false, false, false] (by kernel_rfl) rfl rfl ⟨(blk_cell BK270.out 0).trans rfl, (blk_cell BK270.out 1).trans rfl, (blk_cell BK270.out 2).trans rfl, hx274_0, hx275_0⟩ (fun hHeld => ?_); refine with_tabW marchlandref05_closed.tab23 marchlandref05_closed.bits23 (fun HT_ HW_ => ?_)
                                              generalize w58.drew = w60 at HO_3 HL271_0 BK253 BK270 HR271_0 HB HL274_0 HR274_0 HX274_0 hx274_0 hx275_0 hHeld ⊢
                                              refine pure_ (i := 0) (N := some 82) (v := ?_) (a' := ?_) #[true, false, false, false, false, false, false, false, false, false] rfl rfl (any_of HT_.out (by kernel_rfl)) (fun _ _ _ h => h) (Or.inl ⟨by rfl, ?_⟩) ?_ ?_
                                              rotate_left
                                              · intro w'
                                                go_simp
                                                with_reducible rfl
                                              rotate_left
                                              · simp only [Act.put, List.setIfInBounds_toArray, List.set_cons_zero, List.set_cons_succ, i64_w, i32_w]
                                                rfl
                                              refine pure_ (i := 1) (N := some 83) (v := ?_) (a' := ?_) #[true, true, false, false, false, false, false, false, false, false] rfl rfl (any_of HT_.out (by kernel_rfl)) (fun _ _ _ h => h) (Or.inl ⟨by rfl, ?_⟩) ?_ ?_
                                              rotate_left
                                              · intro w'
                                                go_simp
                                                with_reducible rfl
                                              rotate_left
                                              · simp only [Act.put, List.setIfInBounds_toArray, List.set_cons_zero, List.set_cons_succ, i64_w, i32_w]
                                                rfl
                                              refine pure_ (i := 2) (N := some 84) (v := ?_) (a' := ?_) #[true, true, true, false, false, false, false, false, false, false] rfl rfl (any_of HT_.out (by kernel_rfl)) (fun _ _ _ h => h) (Or.inl ⟨by rfl, ?_⟩) ?_ ?_
                                              rotate_left
                                              · intro w'
                                                go_simp
                                                with_reducible rfl
                                              rotate_left
                                              · simp only [Act.put, List.setIfInBounds_toArray, List.set_cons_zero, List.set_cons_succ, i64_w, i32_w]
                                                rfl
                                              refine pure_ (i := 3) (N := some 85) (v := ?_) (a' := ?_) #[true, true, true, true, false, false, false, false, false, false] rfl rfl (any_of HT_.out (by kernel_rfl)) (fun _ _ _ h => h) (Or.inl ⟨by rfl, ?_⟩) ?_ ?_
                                              rotate_left
                                              · intro w'
                                                go_simp
                                                with_reducible rfl
                                              rotate_left
                                              · simp only [Act.put, List.setIfInBounds_toArray, List.set_cons_zero, List.set_cons_succ, i64_w, i32_w]
                                                rfl
                                              refine pure_ (i := 5) (N := some 87) (v := ?_) (a' := ?_) #[true, true, true, true, false, true, false, false, false, false] rfl rfl (any_of HT_.out (by kernel_rfl)) (fun _ _ _ h => h) (Or.inl ⟨by rfl, ?_⟩) ?_ ?_
                                              rotate_left
                                              · intro w'
                                                go_simp
                                                with_reducible rfl
                                              rotate_left
                                              · simp only [Act.put, List.setIfInBounds_toArray, List.set_cons_zero, List.set_cons_succ, i64_w, i32_w]
                                                rfl
                                              refine take_ (i := 4) (N := some 86) (v := ?_) (a' := ?_) #[true, true, true, true, true, true, false, false, false, false] rfl rfl (take_ofW HT_.out HW_.out (by kernel_rfl)) (fun _ _ _ h => h) (Or.inl ⟨by rfl, ?_⟩) hHeld ?_ ?_
                                              rotate_left
                                              · rintro w' ⟨s0, s1, s2, s3, s4⟩
                                                go_simp
                                                with_reducible rfl
                                              rotate_left
                                              · simp only [Act.put, List.setIfInBounds_toArray, List.set_cons_zero, List.set_cons_succ, i64_w, i32_w]
                                                rfl
                                              refine take_ (i := 6) (N := some 88) (v := ?_) (a' := ?_) #[true, true, true, true, true, true, true, false, false, false] rfl rfl (take_ofW HT_.out HW_.out (by kernel_rfl)) (fun _ _ _ h => h) (Or.inl ⟨by rfl, ?_⟩) hHeld ?_ ?_
                                              rotate_left
                                              · rintro w' ⟨s0, s1, s2, s3, s4⟩
                                                go_simp
                                                with_reducible rfl
                                              rotate_left
                                              · simp only [Act.put, List.setIfInBounds_toArray, List.set_cons_zero, List.set_cons_succ, i64_w, i32_w]
                                                rfl
                                              refine pure_ (i := 7) (N := some 89) (v := ?_) (a' := ?_) #[true, true, true, true, true, true, true, true, false, false] rfl rfl (any_of HT_.out (by kernel_rfl)) (fun _ _ _ h => h) (Or.inl ⟨by rfl, ?_⟩) ?_ ?_
                                              rotate_left
                                              · intro w'
                                                go_simp
                                                with_reducible rfl
                                              rotate_left
                                              · simp only [Act.put, List.setIfInBounds_toArray, List.set_cons_zero, List.set_cons_succ, i64_w, i32_w]
                                                rfl
                                              refine take_ (i := 8) (N := some 90) (v := ?_) (a' := ?_) #[true, true, true, true, true, true, true, true, true, false] rfl rfl (take_ofW HT_.out HW_.out (by kernel_rfl)) (fun _ _ _ h => h) (Or.inl ⟨by rfl, ?_⟩) hHeld ?_ ?_
                                              rotate_left
                                              · rintro w' ⟨s0, s1, s2, s3, s4⟩
                                                go_simp
                                                with_reducible rfl
                                              rotate_left
                                              · simp only [Act.put, List.setIfInBounds_toArray, List.set_cons_zero, List.set_cons_succ, i64_w, i32_w]
                                                rfl
                                              refine pure_ (i := 9) (N := some 91) (v := ?_) (a' := ?_) #[true, true, true, true, true, true, true, true, true, true] rfl rfl (any_of HT_.out (by kernel_rfl)) (fun _ _ _ h => h) (Or.inl ⟨by rfl, ?_⟩) ?_ ?_
                                              rotate_left
                                              · intro w'
                                                go_simp
                                                with_reducible rfl
                                              rotate_left
                                              · simp only [Act.put, List.setIfInBounds_toArray, List.set_cons_zero, List.set_cons_succ, i64_w, i32_w]
                                                rfl
                                              refine done_ (done_of HT_.out (by kernel_rfl)) ?_
                                              try go_wp2
                                              have n0_ := Aside0.mk (Kd.S_drew HO_3.out)
                                              have n1_ := Aside0.mk (Kd.R_drew HL271_0.out)
                                              have n2_ := Aside0.mk (Kd.R_drew HL274_0.out)
                                              have n3_ := Aside0.mk (blk_drew BK253.out)
                                              have n4_ := Aside0.mk (blk_drew BK270.out)
                                              have n5_ := Aside0.mk (Kd.C_drew HR271_0.out)
                                              have n6_ := Aside0.mk (Kd.C_drew HR274_0.out)
                                              have n7_ := Aside0.mk (below_drew1 HB.out)
                                              clear HO_3
                                              clear HL271_0
                                              clear HL274_0
                                              clear BK253
                                              clear BK270
                                              clear HR271_0
                                              clear HR274_0
                                              clear HB
                                              have HO_3 := n0_
                                              have HL271_0 := n1_
                                              have HL274_0 := n2_
                                              have BK253 := n3_
                                              have BK270 := n4_
                                              have HR271_0 := n5_
                                              have HR274_0 := n6_
                                              have HB := n7_
                                              clear n0_ n1_ n2_ n3_ n4_ n5_ n6_ n7_
                                              have p276 : 0 ≤ (x7_3 : Int) := of_decide_eq_true (by first | (with_reducible assumption) | assumption)
                                              have q276 : x7_3 < (x3_4.length : Int) := of_decide_eq_true (by first | (with_reducible assumption) | assumption)
                                              obtain ⟨ad276, A276_0, c276_0, e276, hx276_0, hl276_0, hi276_0⟩ := at_L8 (Kd.S_reads' HO_3.out).2.2 x7_3 p276 q276
                                              obtain rfl : ad271 = ad276 := (by injection e276)
                                              obtain ⟨ce276, hce276, hMe276, hcc276⟩ := Kd.S_get HO_3.out [] x7_3 p276 (by first | exact q276 | exact of_decide_eq_true (by first | (with_reducible assumption) | assumption) | (have e_ := (Kd.S_reads' HO_3.out).1; omega))
                                              obtain ⟨ve276_0, rfl, ge276_0⟩ := hMe276
                                              have hv276_0 := hcc276 0 _ rfl
                                              rw [Nat.add_zero, show ((Kd.slice 22 (Kd.int .u64))).sz = 1 from rfl, Nat.mul_one] at hv276_0
                                              replace hv276_0 := Option.some.inj (hv276_0.symm.trans hx276_0)
                                              rw [hv276_0] at ge276_0
                                              have HL276_0 := Aside0.mk (show Kd.R (Kd.int .u64) 22 _ _ _ _ (rd_L8 x3_4 x7_3) from ge276_0)
                                              clear hv276_0 ge276_0
                                              have HX276_0 := Aside0.mk hx276_0
                                              clear hcc276 hce276
                                              have HR276_0 := Aside0.mk hi276_0
                                              have HC276_0 := Aside0.mk hl276_0
                                              clear hi276_0 hl276_0
                                              replace p276 := eq_true p276
                                              replace q276 := eq_true q276
                                              have p52 : 0 ≤ (((rd_T75 l0_1 x8_4).f1) : Int) := of_decide_eq_true (by first | (with_reducible assumption) | assumption)
                                              have q52 : (((rd_T75 l0_1 x8_4).f1) : Int) < (((rd_L8 x3_4 x7_3).length : Int) : Int) := of_decide_eq_true (by first | (with_reducible assumption) | assumption)
                                              obtain ⟨go52, co52, eo52, gb52, gl52, cl52, HG52⟩ := Kd.R_form HL276_0.out (by omega)
                                              (first | cases eo52 | (injection eo52 with ea_ en_ ec_; (first | subst ea_ | (injection ea_ with ea_; subst ea_)); subst ec_; clear en_))
                                              have GB52 := Aside0.mk gb52
                                              have GG52 := Aside0.mk HG52
                                              clear gb52 gl52 HG52
                                              obtain ⟨hx52_0, hf52_0⟩ := Kd.R_celln 0 HL276_0.out (((rd_T75 l0_1 x8_4).f1) : Int) p52 q52
                                              replace p52 := eq_true p52
                                              replace q52 := eq_true q52
                                              have hq62 : (x7_3 : Int) < (x3_4.length : Int) := (by have h_ : (x7_3 : Int) < ((x3_4.length : Int) : Int) := of_decide_eq_true (by first | (with_reducible assumption) | assumption); first | exact h_ | (have e_ := (Kd.S_reads' HO_3.out).1; omega) | simpa only [List.length_set, List.length_set] using h_)
                                              obtain ⟨oki62, ce62, hcl62, hM62, hcc62, hok62, hbk62⟩ := Kd.S_borrow HO_3.out [] (x7_3 : Int) (of_decide_eq_true (by first | (with_reducible assumption) | assumption)) hq62
                                              obtain ⟨ve62_0, rfl, ge62_0⟩ := hM62
                                              have hv62 := hcc62 0 _ rfl
                                              rw [Nat.add_zero, show ((Kd.slice 22 (Kd.int .u64))).sz = 1 from rfl, Nat.mul_one] at hv62
                                              replace hv62 := Option.some.inj (hv62.symm.trans HX276_0.out)
                                              subst hv62
                                              clear hcc62 hcl62
                                              replace ge62_0 := (show Kd.R (Kd.int .u64) 22 _ _ _ _ (rd_L8 x3_4 x7_3) from ge62_0)
                                              have HP62 := Kd.R_putg ge62_0 (((rd_T75 l0_1 x8_4).f1) : Int) t273
                                              rw [← Ny277.out] at HP62
                                              have HS62 := hbk62 HP62.2 (fun k_ e_ => by injection e_ with e_; subst e_; exact ge62_0.1 _ rfl) (x' := y277) (Kd.M_row HP62.1)
                                              rw [← Ny279.out] at HS62
                                              have HQ62 := Aside0.mk HS62
                                              clear HP62 HS62 hbk62 hok62
                                              refine start_ (n := 9) (S := fun w' => w'.cell? ⟨gb270, 0, none⟩ = some (.int .i64 ((rd_T75 l0_1 x8_4).f0)) ∧ w'.cell? ⟨gb270, 1, none⟩ = some (.int .i64 ((rd_T75 l0_1 x8_4).f1)) ∧ w'.cell? ⟨gb270, 2, none⟩ = some (.int .u64 ((rd_T75 l0_1 x8_4).f2)) ∧ w'.cell? (ad271.add (x7_3).toNat) = some (.slice (some ⟨go52, 0, none⟩) (rd_L8 x3_4 x7_3).length c276_0)) (ds := [8]) #[false, false, false, false, false, false, false, false, false] (by kernel_rfl) rfl rfl ⟨(blk_cell BK270.out 0).trans rfl, (blk_cell BK270.out 1).trans rfl, (blk_cell BK270.out 2).trans rfl, hx276_0⟩ (fun hHeld => ?_); refine with_tabW marchlandref05_closed.tab24 marchlandref05_closed.bits24 (fun HT_ HW_ => ?_)
                                              generalize w60.drew = w61 at HO_3 HL271_0 HL274_0 BK253 BK270 HR271_0 HR274_0 HB GG52 HL276_0 HQ62 HR276_0 HX276_0 hf52_0 hx276_0 hx52_0 hHeld ⊢
                                              refine pure_ (i := 0) (N := some 92) (v := ?_) (a' := ?_) #[true, false, false, false, false, false, false, false, false] rfl rfl (any_of HT_.out (by kernel_rfl)) (fun _ _ _ h => h) (Or.inl ⟨by rfl, ?_⟩) ?_ ?_
                                              rotate_left
                                              · intro w'
                                                go_simp
                                                with_reducible rfl
                                              rotate_left
                                              · simp only [Act.put, List.setIfInBounds_toArray, List.set_cons_zero, List.set_cons_succ, i64_w, i32_w]
                                                rfl
                                              refine pure_ (i := 1) (N := some 93) (v := ?_) (a' := ?_) #[true, true, false, false, false, false, false, false, false] rfl rfl (any_of HT_.out (by kernel_rfl)) (fun _ _ _ h => h) (Or.inl ⟨by rfl, ?_⟩) ?_ ?_
                                              rotate_left
                                              · intro w'
                                                go_simp
                                                with_reducible rfl
                                              rotate_left
                                              · simp only [Act.put, List.setIfInBounds_toArray, List.set_cons_zero, List.set_cons_succ, i64_w, i32_w]
                                                rfl
                                              refine pure_ (i := 2) (N := some 94) (v := ?_) (a' := ?_) #[true, true, true, false, false, false, false, false, false] rfl rfl (any_of HT_.out (by kernel_rfl)) (fun _ _ _ h => h) (Or.inl ⟨by rfl, ?_⟩) ?_ ?_
                                              rotate_left
                                              · intro w'
                                                go_simp
                                                with_reducible rfl
                                              rotate_left
                                              · simp only [Act.put, List.setIfInBounds_toArray, List.set_cons_zero, List.set_cons_succ, i64_w, i32_w]
                                                rfl
                                              refine pure_ (i := 4) (N := some 96) (v := ?_) (a' := ?_) #[true, true, true, false, true, false, false, false, false] rfl rfl (any_of HT_.out (by kernel_rfl)) (fun _ _ _ h => h) (Or.inl ⟨by rfl, ?_⟩) ?_ ?_
                                              rotate_left
                                              · intro w'
                                                go_simp
                                                with_reducible rfl
                                              rotate_left
                                              · simp only [Act.put, List.setIfInBounds_toArray, List.set_cons_zero, List.set_cons_succ, i64_w, i32_w]
                                                rfl
                                              refine pure_ (i := 6) (N := some 98) (v := ?_) (a' := ?_) #[true, true, true, false, true, false, true, false, false] rfl rfl (any_of HT_.out (by kernel_rfl)) (fun _ _ _ h => h) (Or.inl ⟨by rfl, ?_⟩) ?_ ?_
                                              rotate_left
                                              · intro w'
                                                go_simp
                                                with_reducible rfl
                                              rotate_left
                                              · simp only [Act.put, List.setIfInBounds_toArray, List.set_cons_zero, List.set_cons_succ, i64_w, i32_w]
                                                rfl
                                              refine take_ (i := 3) (N := some 95) (v := ?_) (a' := ?_) #[true, true, true, true, true, false, true, false, false] rfl rfl (take_ofW HT_.out HW_.out (by kernel_rfl)) (fun _ _ _ h => h) (Or.inl ⟨by rfl, ?_⟩) hHeld ?_ ?_
                                              rotate_left
                                              · rintro w' ⟨s0, s1, s2, s3⟩
                                                go_simp
                                                with_reducible rfl
                                              rotate_left
                                              · simp only [Act.put, List.setIfInBounds_toArray, List.set_cons_zero, List.set_cons_succ, i64_w, i32_w]
                                                rfl
                                              refine take_ (i := 5) (N := some 97) (v := ?_) (a' := ?_) #[true, true, true, true, true, true, true, false, false] rfl rfl (take_ofW HT_.out HW_.out (by kernel_rfl)) (fun _ _ _ h => h) (Or.inl ⟨by rfl, ?_⟩) hHeld ?_ ?_
                                              rotate_left
                                              · rintro w' ⟨s0, s1, s2, s3⟩
                                                go_simp
                                                with_reducible rfl
                                              rotate_left
                                              · simp only [Act.put, List.setIfInBounds_toArray, List.set_cons_zero, List.set_cons_succ, i64_w, i32_w]
                                                rfl
                                              refine pure_ (i := 7) (N := some 99) (v := ?_) (a' := ?_) #[true, true, true, true, true, true, true, true, false] rfl rfl (any_of HT_.out (by kernel_rfl)) (fun _ _ _ h => h) (Or.inl ⟨by rfl, ?_⟩) ?_ ?_
                                              rotate_left
                                              · intro w'
                                                go_simp
                                                with_reducible rfl
                                              rotate_left
                                              · simp only [Act.put, List.setIfInBounds_toArray, List.set_cons_zero, List.set_cons_succ, i64_w, i32_w]
                                                rfl
                                              refine last_ (i := 8) (N := none) #[true, true, true, true, true, true, true, true, true] rfl rfl (one_of HT_.out (by kernel_rfl)) (by decide) (fun K hK => ?_)
                                              refine skip_ (w1 := ?_) (by rfl) rfl ?_ ?_
                                              rotate_left
                                              · go_simp
                                                rfl
                                              refine hK.out _ _ ?_
                                              clear hK K
                                              refine done_ (done_of HT_.out (by kernel_rfl)) ?_
                                              try go_wp2
                                              go_roundg k4
                                              case measure => have := HK1.out; have := HK2.out; have := HK3.out; have := HK4.out; omega
                                              case rel => exact ⟨(y279), (wrap64 (x8_4 + 1)), (by first | rfl | (simp; done) | (simp [*]; done)), H', ⟨by have := HK1.out; have := HK2.out; have := HK3.out; have := HK4.out; omega⟩, ⟨by (with_reducible repeat (first | apply Kd.S_alloc | apply Kd.S_drewN | apply Kd.S_drew)); exact HQ62.out⟩, ⟨by (with_reducible repeat (first | refine blk_drewN ?_ _ | refine blk_drew ?_ | refine blk_alloc ?_ _)); refine blk_far ?_ (by have h_ := Kd.R_ne HL276_0.out BK253.out (by decide); intro e_; exact h_ (by rw [e_]; rfl)) _; (with_reducible repeat (first | refine blk_drewN ?_ _ | refine blk_drew ?_ | refine blk_alloc ?_ _)); exact BK253.out⟩, ⟨by repeat (first | (with_reducible first | exact HB.out | apply below_alloc | apply pw_below_drewN | apply below_drew1 | refine below_set ?_ GB52.out | refine below_set ?_ GE253.out | refine below_set ?_ GE270.out) | exact HB.out)⟩⟩
                                            · rw [if_neg c51] at H
                                              have c51b0 : decide (t273 < (rd (rd_L8 x3_4 x7_3) ((rd_T75 l0_1 x8_4).f1))) = false := decide_eq_false c51
                                              clear c51
                                              have H' := Aside0.mk H
                                              clear H
                                              have hcz64_0 : wr.cell? ⟨gb253, 0, none⟩ = some (.int .i64 a0_0) := (blk_cell BK253.out 0).trans rfl
                                              have hcz64_1 : wr.cell? ⟨gb253, 1, none⟩ = some (.slice A0_1 l0_1.length c0_1) := (blk_cell BK253.out 1).trans rfl
                                              have hcz64_2 : wr.cell? ⟨gb253, 2, none⟩ = some (.slice A0_2 l0_2.length c0_2) := (blk_cell BK253.out 2).trans rfl
                                              have hfz64_0 := blk_frozen BK253.out 0
                                              have hfz64_1 := blk_frozen BK253.out 1
                                              have hfz64_2 := blk_frozen BK253.out 2
                                              have p269 : 0 ≤ (x8_4 : Int) := of_decide_eq_true (by first | (with_reducible assumption) | assumption)
                                              have q269 : x8_4 < (l0_1.length : Int) := of_decide_eq_true (by first | (with_reducible assumption) | assumption)
                                              obtain ⟨ad269, e269, hx269_0, hx269_1, hx269_2⟩ := at_T75 HR0_1.out x8_4 p269 q269
                                              cases e269
                                              replace hx269_0 := (HB.out.cell (World.block_lt_of_cell? w _ hx269_0)).trans hx269_0
                                              replace hx269_1 := (HB.out.cell (World.block_lt_of_cell? w _ hx269_1)).trans hx269_1
                                              replace hx269_2 := (HB.out.cell (World.block_lt_of_cell? w _ hx269_2)).trans hx269_2
                                              replace p269 := eq_true p269
                                              replace q269 := eq_true q269
                                              try go_wp2_with (first | ((with_reducible refine gate_dst (N := 9) rfl ?_); refine box_event ?hg (N := 9) ?hd (cs := #[.int .i64 0, .int .i64 0, .int .u64 0]) (t := 75) ?hr ?_; (case hd => rfl); (case hg => rfl); (case hr => first | (go_simp; done) | (go_simp; rfl)); intro gb270 hg w65 hbox hb; have n0_ := Aside0.mk (Kd.S_below (by (with_reducible repeat (first | apply Kd.S_alloc | apply Kd.S_drewN | apply Kd.S_drew)); exact HO_3.out) hb); have n1_ := Aside0.mk (blk_below (g := gb253) (o := .cells #[.int .i64 a0_0, .slice (some ad269) l0_1.length c0_1, .slice A0_2 l0_2.length c0_2] 59 (0, 0)) (by (with_reducible repeat (first | refine blk_drewN ?_ _ | refine blk_drew ?_ | refine blk_alloc ?_ _)); exact BK253.out) hb); have n2_ := Aside0.mk (below_step (by repeat (first | (with_reducible first | exact HB.out | apply below_alloc | apply pw_below_drewN | apply below_drew1 | refine below_set ?_ GE253.out) | exact HB.out)) hb); have n3_ := Aside0.mk (hbox); have n4_ := Aside0.mk ((by rw [hg]; exact (below_size (by repeat (first | (with_reducible first | exact HB.out | apply below_alloc | apply pw_below_drewN | apply below_drew1 | refine below_set ?_ GE253.out) | exact HB.out))) : w.heap.size ≤ gb270)); have n5_ := Aside0.mk ((by rw [hg]; exact (below_size (by repeat (first | (with_reducible first | exact HB.out | apply below_alloc | apply pw_below_drewN | apply below_drew1 | refine below_set ?_ GE253.out) | exact HB.out))) : w.heap.size ≤ gb270)); have n6_ := Aside0.mk ((by rw [hg]; exact Nat.ne_of_lt (blk_lt (g := gb253) (o := .cells #[.int .i64 a0_0, .slice (some ad269) l0_1.length c0_1, .slice A0_2 l0_2.length c0_2] 59 (0, 0)) (by (with_reducible repeat (first | refine blk_drewN ?_ _ | refine blk_drew ?_ | refine blk_alloc ?_ _)); exact BK253.out)) : gb253 ≠ gb270)); have n7_ := Aside0.mk ((by rw [hg]; exact Nat.ne_of_gt (blk_lt (g := gb253) (o := .cells #[.int .i64 a0_0, .slice (some ad269) l0_1.length c0_1, .slice A0_2 l0_2.length c0_2] 59 (0, 0)) (by (with_reducible repeat (first | refine blk_drewN ?_ _ | refine blk_drew ?_ | refine blk_alloc ?_ _)); exact BK253.out)) : gb270 ≠ gb253)); clear HO_3; clear BK253; clear HB; have HO_3 := n0_; have BK253 := n1_; have HB := n2_; have BK270 := n3_; have GW270 := n4_; have GE270 := n5_; have NB253_270 := n6_; have NB270_253 := n7_; clear n0_ n1_ n2_ n3_ n4_ n5_ n6_ n7_; clear hb hbox hg; have hnb66 := NB270_253.out; have hnc66 := NB253_270.out; have hcz67_0 : w65.cell? ⟨gb270, 0, none⟩ = some (.int .i64 0) := (blk_cell BK270.out 0).trans rfl; have hcz67_1 : w65.cell? ⟨gb270, 1, none⟩ = some (.int .i64 0) := (blk_cell BK270.out 1).trans rfl; have hcz67_2 : w65.cell? ⟨gb270, 2, none⟩ = some (.int .u64 0) := (blk_cell BK270.out 2).trans rfl; have hfz67_0 := blk_frozen BK270.out 0; have hfz67_1 := blk_frozen BK270.out 1; have hfz67_2 := blk_frozen BK270.out 2))
                                              have n0_ : Aside0 (Kd.S (Kd.slice 22 (Kd.int .u64)) 73 (((w65.setCell ⟨gb270, 0, none⟩ (.int .i64 ((rd_T75 l0_1 x8_4).f0))).setCell ⟨gb270, 1, none⟩ (.int .i64 ((rd_T75 l0_1 x8_4).f1))).setCell ⟨gb270, 2, none⟩ (.int .u64 ((rd_T75 l0_1 x8_4).f2))) w.heap.size (fun _ => True) v255 x3_4) := ⟨by (with_reducible repeat (first | apply Kd.S_alloc | apply Kd.S_drewN | apply Kd.S_drew)); exact Kd.S_mono (Kd.S_far (p := ⟨gb270, 2, none⟩) (Kd.S_far (p := ⟨gb270, 1, none⟩) (Kd.S_far (p := ⟨gb270, 0, none⟩) (Kd.S_types HO_3.out BK270.out (by decide)) (fun _ hk => hk.2) (.int .i64 ((rd_T75 l0_1 x8_4).f0))) (fun _ hk => hk.2) (.int .i64 ((rd_T75 l0_1 x8_4).f1))) (fun _ hk => hk.2) (.int .u64 ((rd_T75 l0_1 x8_4).f2))) (fun _ hk => trivial)⟩
                                              have n1_ : Aside0 ((((w65.setCell ⟨gb270, 0, none⟩ (.int .i64 ((rd_T75 l0_1 x8_4).f0))).setCell ⟨gb270, 1, none⟩ (.int .i64 ((rd_T75 l0_1 x8_4).f1))).setCell ⟨gb270, 2, none⟩ (.int .u64 ((rd_T75 l0_1 x8_4).f2))).heap[gb253]? = some (.cells #[.int .i64 a0_0, .slice (some ad269) l0_1.length c0_1, .slice A0_2 l0_2.length c0_2] 59 (0, 0))) := ⟨by (with_reducible repeat (first | refine blk_drewN ?_ _ | refine blk_drew ?_ | refine blk_alloc ?_ _)); refine blk_far ?_ NB253_270.out _; (with_reducible repeat (first | refine blk_drewN ?_ _ | refine blk_drew ?_ | refine blk_alloc ?_ _)); refine blk_far ?_ NB253_270.out _; (with_reducible repeat (first | refine blk_drewN ?_ _ | refine blk_drew ?_ | refine blk_alloc ?_ _)); refine blk_far ?_ NB253_270.out _; (with_reducible repeat (first | refine blk_drewN ?_ _ | refine blk_drew ?_ | refine blk_alloc ?_ _)); exact BK253.out⟩
                                              have n2_ : Aside0 ((((w65.setCell ⟨gb270, 0, none⟩ (.int .i64 ((rd_T75 l0_1 x8_4).f0))).setCell ⟨gb270, 1, none⟩ (.int .i64 ((rd_T75 l0_1 x8_4).f1))).setCell ⟨gb270, 2, none⟩ (.int .u64 ((rd_T75 l0_1 x8_4).f2))).heap[gb270]? = some (.cells #[.int .i64 ((rd_T75 l0_1 x8_4).f0), .int .i64 ((rd_T75 l0_1 x8_4).f1), .int .u64 ((rd_T75 l0_1 x8_4).f2)] 75 (0, 0))) := ⟨by (with_reducible repeat (first | refine blk_drewN ?_ _ | refine blk_drew ?_ | refine blk_alloc ?_ _)); refine blk_put (cs := #[.int .i64 ((rd_T75 l0_1 x8_4).f0), .int .i64 ((rd_T75 l0_1 x8_4).f1), .int .u64 0]) ?_ 2 _ rfl; (with_reducible repeat (first | refine blk_drewN ?_ _ | refine blk_drew ?_ | refine blk_alloc ?_ _)); refine blk_put (cs := #[.int .i64 ((rd_T75 l0_1 x8_4).f0), .int .i64 0, .int .u64 0]) ?_ 1 _ rfl; (with_reducible repeat (first | refine blk_drewN ?_ _ | refine blk_drew ?_ | refine blk_alloc ?_ _)); refine blk_put (cs := #[.int .i64 0, .int .i64 0, .int .u64 0]) ?_ 0 _ rfl; (with_reducible repeat (first | refine blk_drewN ?_ _ | refine blk_drew ?_ | refine blk_alloc ?_ _)); exact BK270.out⟩
                                              have n3_ : Aside0 (Below w.heap.size w (((w65.setCell ⟨gb270, 0, none⟩ (.int .i64 ((rd_T75 l0_1 x8_4).f0))).setCell ⟨gb270, 1, none⟩ (.int .i64 ((rd_T75 l0_1 x8_4).f1))).setCell ⟨gb270, 2, none⟩ (.int .u64 ((rd_T75 l0_1 x8_4).f2)))) := ⟨by repeat (first | (with_reducible first | exact HB.out | apply below_alloc | apply pw_below_drewN | apply below_drew1 | refine below_set ?_ GE253.out | refine below_set ?_ GE270.out) | exact HB.out)⟩
                                              (try clear HO_3)
                                              (try clear BK253)
                                              (try clear BK270)
                                              (try clear HB)
                                              generalize (((w65.setCell ⟨gb270, 0, none⟩ (.int .i64 ((rd_T75 l0_1 x8_4).f0))).setCell ⟨gb270, 1, none⟩ (.int .i64 ((rd_T75 l0_1 x8_4).f1))).setCell ⟨gb270, 2, none⟩ (.int .u64 ((rd_T75 l0_1 x8_4).f2))) = w68 at n0_ n1_ n2_ n3_ ⊢
                                              have HO_3 := n0_
                                              have BK253 := n1_
                                              have BK270 := n2_
                                              have HB := n3_
                                              clear n0_ n1_ n2_ n3_
                                              have n0_ := Aside0.mk (Kd.S_drew HO_3.out)
                                              have n1_ := Aside0.mk (blk_drew BK253.out)
                                              have n2_ := Aside0.mk (blk_drew BK270.out)
                                              have n3_ := Aside0.mk (below_drew1 HB.out)
                                              clear HO_3
                                              clear BK253
                                              clear BK270
                                              clear HB
                                              have HO_3 := n0_
                                              have BK253 := n1_
                                              have BK270 := n2_
                                              have HB := n3_
                                              clear n0_ n1_ n2_ n3_
                                              obtain ⟨Ao70, co70, eo70⟩ := Kd.S_slice HO_3.out
                                              (first | subst eo70 | (injection eo70 with f1_ f2_ f3_; have f4_ := f1_.symm; have f5_ := f3_.symm; clear f1_ f2_ f3_; subst f4_; subst f5_))
                                              have p271 : 0 ≤ (x7_3 : Int) := of_decide_eq_true (by first | (with_reducible assumption) | assumption)
                                              have q271 : x7_3 < (x3_4.length : Int) := of_decide_eq_true (by first | (with_reducible assumption) | assumption)
                                              obtain ⟨ad271, A271_0, c271_0, e271, hx271_0, hl271_0, hi271_0⟩ := at_L8 (Kd.S_reads' HO_3.out).2.2 x7_3 p271 q271
                                              cases e271
                                              obtain ⟨ce271, hce271, hMe271, hcc271⟩ := Kd.S_get HO_3.out [] x7_3 p271 (by first | exact q271 | exact of_decide_eq_true (by first | (with_reducible assumption) | assumption) | (have e_ := (Kd.S_reads' HO_3.out).1; omega))
                                              obtain ⟨ve271_0, rfl, ge271_0⟩ := hMe271
                                              have hv271_0 := hcc271 0 _ rfl
                                              rw [Nat.add_zero, show ((Kd.slice 22 (Kd.int .u64))).sz = 1 from rfl, Nat.mul_one] at hv271_0
                                              replace hv271_0 := Option.some.inj (hv271_0.symm.trans hx271_0)
                                              rw [hv271_0] at ge271_0
                                              have HL271_0 := Aside0.mk (show Kd.R (Kd.int .u64) 22 _ _ _ _ (rd_L8 x3_4 x7_3) from ge271_0)
                                              clear hv271_0 ge271_0
                                              have HX271_0 := Aside0.mk hx271_0
                                              clear hcc271 hce271
                                              have HR271_0 := Aside0.mk hi271_0
                                              have HC271_0 := Aside0.mk hl271_0
                                              clear hi271_0 hl271_0
                                              replace p271 := eq_true p271
                                              replace q271 := eq_true q271
                                              have p272 : 0 ≤ (((rd_T75 l0_1 x8_4).f0) : Int) := of_decide_eq_true (by first | (with_reducible assumption) | assumption)
                                              have q272 : ((rd_T75 l0_1 x8_4).f0) < ((rd_L8 x3_4 x7_3).length : Int) := of_decide_eq_true (by first | (with_reducible assumption) | assumption)
                                              obtain ⟨ad272, e272, hx272_0⟩ := Kd.at_int (by repeat (first | (with_reducible exact HR271_0.out) | (with_reducible refine Kd.C_alloc ?_ _) | (with_reducible refine Kd.C_drewN ?_ _) | (with_reducible refine Kd.C_drew ?_) | exact HR271_0.out)) ((rd_T75 l0_1 x8_4).f0) p272 q272
                                              cases e272
                                              replace p272 := eq_true p272
                                              replace q272 := eq_true q272
                                              refine start_ (n := 12) (S := fun w' => w'.cell? ⟨gb270, 0, none⟩ = some (.int .i64 ((rd_T75 l0_1 x8_4).f0)) ∧ w'.cell? ⟨gb270, 1, none⟩ = some (.int .i64 ((rd_T75 l0_1 x8_4).f1)) ∧ w'.cell? ⟨gb270, 2, none⟩ = some (.int .u64 ((rd_T75 l0_1 x8_4).f2)) ∧ w'.cell? (ad271.add (x7_3).toNat) = some (.slice (some ad272) (rd_L8 x3_4 x7_3).length c271_0) ∧ w'.cell? (ad272.add (((rd_T75 l0_1 x8_4).f0)).toNat) = some (.int .u64 (rd (rd_L8 x3_4 x7_3) ((rd_T75 l0_1 x8_4).f0)))) (ds := []) #[false, false, false, false, false, false, false, false, false, false, false, false] (by kernel_rfl) rfl rfl ⟨(blk_cell BK270.out 0).trans rfl, (blk_cell BK270.out 1).trans rfl, (blk_cell BK270.out 2).trans rfl, hx271_0, hx272_0⟩ (fun hHeld => ?_); refine with_tabW marchlandref05_closed.tab22 marchlandref05_closed.bits22 (fun HT_ HW_ => ?_)
                                              generalize w68.drew = w69 at HO_3 BK253 BK270 HB HL271_0 HR271_0 HX271_0 hx271_0 hx272_0 hHeld ⊢
                                              refine pure_ (i := 0) (N := some 71) (v := ?_) (a' := ?_) #[true, false, false, false, false, false, false, false, false, false, false, false] rfl rfl (any_of HT_.out (by kernel_rfl)) (fun _ _ _ h => h) (Or.inl ⟨by rfl, ?_⟩) ?_ ?_
                                              rotate_left
                                              · intro w'
                                                go_simp
                                                with_reducible rfl
                                              rotate_left
                                              · simp only [Act.put, List.setIfInBounds_toArray, List.set_cons_zero, List.set_cons_succ, i64_w, i32_w]
                                                rfl
                                              refine pure_ (i := 1) (N := some 72) (v := ?_) (a' := ?_) #[true, true, false, false, false, false, false, false, false, false, false, false] rfl rfl (any_of HT_.out (by kernel_rfl)) (fun _ _ _ h => h) (Or.inl ⟨by rfl, ?_⟩) ?_ ?_
                                              rotate_left
                                              · intro w'
                                                go_simp
                                                with_reducible rfl
                                              rotate_left
                                              · simp only [Act.put, List.setIfInBounds_toArray, List.set_cons_zero, List.set_cons_succ, i64_w, i32_w]
                                                rfl
                                              refine pure_ (i := 2) (N := some 73) (v := ?_) (a' := ?_) #[true, true, true, false, false, false, false, false, false, false, false, false] rfl rfl (any_of HT_.out (by kernel_rfl)) (fun _ _ _ h => h) (Or.inl ⟨by rfl, ?_⟩) ?_ ?_
                                              rotate_left
                                              · intro w'
                                                go_simp
                                                with_reducible rfl
                                              rotate_left
                                              · simp only [Act.put, List.setIfInBounds_toArray, List.set_cons_zero, List.set_cons_succ, i64_w, i32_w]
                                                rfl
                                              refine pure_ (i := 4) (N := some 75) (v := ?_) (a' := ?_) #[true, true, true, false, true, false, false, false, false, false, false, false] rfl rfl (any_of HT_.out (by kernel_rfl)) (fun _ _ _ h => h) (Or.inl ⟨by rfl, ?_⟩) ?_ ?_
                                              rotate_left
                                              · intro w'
                                                go_simp
                                                with_reducible rfl
                                              rotate_left
                                              · simp only [Act.put, List.setIfInBounds_toArray, List.set_cons_zero, List.set_cons_succ, i64_w, i32_w]
                                                rfl
                                              refine pure_ (i := 8) (N := some 79) (v := ?_) (a' := ?_) #[true, true, true, false, true, false, false, false, true, false, false, false] rfl rfl (any_of HT_.out (by kernel_rfl)) (fun _ _ _ h => h) (Or.inl ⟨by rfl, ?_⟩) ?_ ?_
                                              rotate_left
                                              · intro w'
                                                go_simp
                                                with_reducible rfl
                                              rotate_left
                                              · simp only [Act.put, List.setIfInBounds_toArray, List.set_cons_zero, List.set_cons_succ, i64_w, i32_w]
                                                rfl
                                              refine take_ (i := 3) (N := some 74) (v := ?_) (a' := ?_) #[true, true, true, true, true, false, false, false, true, false, false, false] rfl rfl (take_ofW HT_.out HW_.out (by kernel_rfl)) (fun _ _ _ h => h) (Or.inl ⟨by rfl, ?_⟩) hHeld ?_ ?_
                                              rotate_left
                                              · rintro w' ⟨s0, s1, s2, s3, s4⟩
                                                go_simp
                                                with_reducible rfl
                                              rotate_left
                                              · simp only [Act.put, List.setIfInBounds_toArray, List.set_cons_zero, List.set_cons_succ, i64_w, i32_w]
                                                rfl
                                              refine take_ (i := 5) (N := some 76) (v := ?_) (a' := ?_) #[true, true, true, true, true, true, false, false, true, false, false, false] rfl rfl (take_ofW HT_.out HW_.out (by kernel_rfl)) (fun _ _ _ h => h) (Or.inl ⟨by rfl, ?_⟩) hHeld ?_ ?_
                                              rotate_left
                                              · rintro w' ⟨s0, s1, s2, s3, s4⟩
                                                go_simp
                                                with_reducible rfl
                                              rotate_left
                                              · simp only [Act.put, List.setIfInBounds_toArray, List.set_cons_zero, List.set_cons_succ, i64_w, i32_w]
                                                rfl
                                              refine pure_ (i := 6) (N := some 77) (v := ?_) (a' := ?_) #[true, true, true, true, true, true, true, false, true, false, false, false] rfl rfl (any_of HT_.out (by kernel_rfl)) (fun _ _ _ h => h) (Or.inl ⟨by rfl, ?_⟩) ?_ ?_
                                              rotate_left
                                              · intro w'
                                                go_simp
                                                with_reducible rfl
                                              rotate_left
                                              · simp only [Act.put, List.setIfInBounds_toArray, List.set_cons_zero, List.set_cons_succ, i64_w, i32_w]
                                                rfl
                                              refine take_ (i := 7) (N := some 78) (v := ?_) (a' := ?_) #[true, true, true, true, true, true, true, true, true, false, false, false] rfl rfl (take_ofW HT_.out HW_.out (by kernel_rfl)) (fun _ _ _ h => h) (Or.inl ⟨by rfl, ?_⟩) hHeld ?_ ?_
                                              rotate_left
                                              · rintro w' ⟨s0, s1, s2, s3, s4⟩
                                                go_simp
                                                with_reducible rfl
                                              rotate_left
                                              · simp only [Act.put, List.setIfInBounds_toArray, List.set_cons_zero, List.set_cons_succ, i64_w, i32_w]
                                                rfl
                                              refine take_ (i := 9) (N := some 80) (v := ?_) (a' := ?_) #[true, true, true, true, true, true, true, true, true, true, false, false] rfl rfl (take_ofW HT_.out HW_.out (by kernel_rfl)) (fun _ _ _ h => h) (Or.inl ⟨by rfl, ?_⟩) hHeld ?_ ?_
                                              rotate_left
                                              · rintro w' ⟨s0, s1, s2, s3, s4⟩
                                                go_simp
                                                with_reducible rfl
                                              rotate_left
                                              · simp only [Act.put, List.setIfInBounds_toArray, List.set_cons_zero, List.set_cons_succ, i64_w, i32_w]
                                                rfl
                                              refine one_ (i := 10) (N := some 81) #[true, true, true, true, true, true, true, true, true, true, true, false] rfl rfl (one_of HT_.out (by kernel_rfl)) (by decide) (fun K hK => ?_)
                                              refine goes_ Tryd.func14 (by kernel_rfl) rfl #[.int .u64 (rd (rd_L8 x3_4 x7_3) ((rd_T75 l0_1 x8_4).f0)), .int .u64 ((rd_T75 l0_1 x8_4).f2)] (by rfl) rfl rfl (by (try simp only [List.map_toArray, List.map_cons, List.map_nil]); first | done | rfl | (simp only [List.length_drop, List.length_take]; rfl)) ?_
                                              with_reducible refine (marchlandref01_Plus.calls (rd (rd_L8 x3_4 x7_3) ((rd_T75 l0_1 x8_4).f0)) ((rd_T75 l0_1 x8_4).f2) t273 _ A48.out).mono ?_
                                              rintro e w' ⟨rfl, ⟨nd, rfl⟩⟩
                                              refine ⟨_, rfl, ?_⟩
                                              refine hK.out _ _ ⟨(blk_cell BK270.out 0).trans rfl, (blk_cell BK270.out 1).trans rfl, (blk_cell BK270.out 2).trans rfl, hHeld.2.2.2.1, hHeld.2.2.2.2⟩ (fun hHeld => ?_)
                                              clear hK K
                                              refine norm_ (a' := ?_) ?_ ?_
                                              rotate_left
                                              · show Act.put _ (some 81) _ = _
                                                simp only [Act.put, List.setIfInBounds_toArray, List.set_cons_zero, List.set_cons_succ, i64_w, i32_w]
                                                rfl
                                              refine pure_ (i := 11) (N := some 10) (v := ?_) (a' := ?_) #[true, true, true, true, true, true, true, true, true, true, true, true] rfl rfl (any_of HT_.out (by kernel_rfl)) (fun _ _ _ h => h) (Or.inl ⟨by rfl, ?_⟩) ?_ ?_
                                              rotate_left
                                              · intro w'
                                                go_simp
                                                with_reducible rfl
                                              rotate_left
                                              · simp only [Act.put, List.setIfInBounds_toArray, List.set_cons_zero, List.set_cons_succ, i64_w, i32_w]
                                                rfl
                                              refine done_ (done_of HT_.out (by kernel_rfl)) ?_
                                              try go_wp2
                                              (try (rw [drewN_self w69]; generalize hq_ : World.drewN w69 _ = w69; have n0_ : Aside0 (Kd.R (Kd.int .u64) 22 w69 w.heap.size (fun k_ => some k_ ≠ (.slice (some ad271) x3_4.length co70 : Value).ownBlock) (.slice (some ad272) (rd_L8 x3_4 x7_3).length c271_0) (rd_L8 x3_4 x7_3)) := ⟨by rw [← hq_]; exact (by (with_reducible repeat (first | apply Kd.R_alloc | apply Kd.R_drewN | apply Kd.R_drew)); exact Kd.R_mono HL271_0.out (fun _ hk => hk.2))⟩; have n1_ : Aside0 (Kd.S (Kd.slice 22 (Kd.int .u64)) 73 w69 w.heap.size (fun _ => True) (.slice (some ad271) x3_4.length co70) x3_4) := ⟨by rw [← hq_]; exact (by (with_reducible repeat (first | apply Kd.S_alloc | apply Kd.S_drewN | apply Kd.S_drew)); exact HO_3.out)⟩; have n2_ : Aside0 (w69.heap[gb253]? = some (.cells #[.int .i64 a0_0, .slice (some ad269) l0_1.length c0_1, .slice A0_2 l0_2.length c0_2] 59 (0, 0))) := ⟨by rw [← hq_]; exact (by (with_reducible repeat (first | refine blk_drewN ?_ _ | refine blk_drew ?_ | refine blk_alloc ?_ _)); exact BK253.out)⟩; have n3_ : Aside0 (w69.heap[gb270]? = some (.cells #[.int .i64 ((rd_T75 l0_1 x8_4).f0), .int .i64 ((rd_T75 l0_1 x8_4).f1), .int .u64 ((rd_T75 l0_1 x8_4).f2)] 75 (0, 0))) := ⟨by rw [← hq_]; exact (by (with_reducible repeat (first | refine blk_drewN ?_ _ | refine blk_drew ?_ | refine blk_alloc ?_ _)); exact BK270.out)⟩; have n4_ : Aside0 (Below w.heap.size w w69) := ⟨by rw [← hq_]; exact (by repeat (first | (with_reducible first | exact HB.out | apply below_alloc | apply pw_below_drewN | apply below_drew1 | refine below_set ?_ GE253.out | refine below_set ?_ GE270.out) | exact HB.out))⟩; have n5_ : Aside0 (Kd.C (Kd.int .u64) w69 (some ad272) (rd_L8 x3_4 x7_3).length (rd_L8 x3_4 x7_3)) := ⟨by rw [← hq_]; exact (by repeat (first | (with_reducible exact HR271_0.out) | (with_reducible refine Kd.C_alloc ?_ _) | (with_reducible refine Kd.C_drewN ?_ _) | (with_reducible refine Kd.C_drew ?_) | exact HR271_0.out))⟩; clear HL271_0 HO_3 BK253 BK270 HB HR271_0 hq_; have HL271_0 := n0_; have HO_3 := n1_; have BK253 := n2_; have BK270 := n3_; have HB := n4_; have HR271_0 := n5_; clear n0_ n1_ n2_ n3_ n4_ n5_))
                                              have n0_ := Aside0.mk (Kd.S_drew HO_3.out)
                                              have n1_ := Aside0.mk (Kd.R_drew HL271_0.out)
                                              have n2_ := Aside0.mk (blk_drew BK253.out)
                                              have n3_ := Aside0.mk (blk_drew BK270.out)
                                              have n4_ := Aside0.mk (Kd.C_drew HR271_0.out)
                                              have n5_ := Aside0.mk (below_drew1 HB.out)
                                              clear HO_3
                                              clear HL271_0
                                              clear BK253
                                              clear BK270
                                              clear HR271_0
                                              clear HB
                                              have HO_3 := n0_
                                              have HL271_0 := n1_
                                              have BK253 := n2_
                                              have BK270 := n3_
                                              have HR271_0 := n4_
                                              have HB := n5_
                                              clear n0_ n1_ n2_ n3_ n4_ n5_
                                              have p274 : 0 ≤ (x7_3 : Int) := of_decide_eq_true (by first | (with_reducible assumption) | assumption)
                                              have q274 : x7_3 < (x3_4.length : Int) := of_decide_eq_true (by first | (with_reducible assumption) | assumption)
                                              obtain ⟨ad274, A274_0, c274_0, e274, hx274_0, hl274_0, hi274_0⟩ := at_L8 (Kd.S_reads' HO_3.out).2.2 x7_3 p274 q274
                                              obtain rfl : ad271 = ad274 := (by injection e274)
                                              obtain ⟨ce274, hce274, hMe274, hcc274⟩ := Kd.S_get HO_3.out [] x7_3 p274 (by first | exact q274 | exact of_decide_eq_true (by first | (with_reducible assumption) | assumption) | (have e_ := (Kd.S_reads' HO_3.out).1; omega))
                                              obtain ⟨ve274_0, rfl, ge274_0⟩ := hMe274
                                              have hv274_0 := hcc274 0 _ rfl
                                              rw [Nat.add_zero, show ((Kd.slice 22 (Kd.int .u64))).sz = 1 from rfl, Nat.mul_one] at hv274_0
                                              replace hv274_0 := Option.some.inj (hv274_0.symm.trans hx274_0)
                                              rw [hv274_0] at ge274_0
                                              have HL274_0 := Aside0.mk (show Kd.R (Kd.int .u64) 22 _ _ _ _ (rd_L8 x3_4 x7_3) from ge274_0)
                                              clear hv274_0 ge274_0
                                              have HX274_0 := Aside0.mk hx274_0
                                              clear hcc274 hce274
                                              have HR274_0 := Aside0.mk hi274_0
                                              have HC274_0 := Aside0.mk hl274_0
                                              clear hi274_0 hl274_0
                                              replace p274 := eq_true p274
                                              replace q274 := eq_true q274
                                              have p275 : 0 ≤ (((rd_T75 l0_1 x8_4).f1) : Int) := of_decide_eq_true (by first | (with_reducible assumption) | assumption)
                                              have q275 : ((rd_T75 l0_1 x8_4).f1) < ((rd_L8 x3_4 x7_3).length : Int) := of_decide_eq_true (by first | (with_reducible assumption) | assumption)
                                              obtain ⟨ad275, e275, hx275_0⟩ := Kd.at_int (by repeat (first | (with_reducible exact HR274_0.out) | (with_reducible refine Kd.C_alloc ?_ _) | (with_reducible refine Kd.C_drewN ?_ _) | (with_reducible refine Kd.C_drew ?_) | exact HR274_0.out)) ((rd_T75 l0_1 x8_4).f1) p275 q275
                                              cases e275
                                              replace p275 := eq_true p275
                                              replace q275 := eq_true q275
                                              refine start_ (n := 10) (S := fun w' => w'.cell? ⟨gb270, 0, none⟩ = some (.int .i64 ((rd_T75 l0_1 x8_4).f0)) ∧ w'.cell? ⟨gb270, 1, none⟩ = some (.int .i64 ((rd_T75 l0_1 x8_4).f1)) ∧ w'.cell? ⟨gb270, 2, none⟩ = some (.int .u64 ((rd_T75 l0_1 x8_4).f2)) ∧ w'.cell? (ad271.add (x7_3).toNat) = some (.slice (some ad275) (rd_L8 x3_4 x7_3).length c274_0) ∧ w'.cell? (ad275.add (((rd_T75 l0_1 x8_4).f1)).toNat) = some (.int .u64 (rd (rd_L8 x3_4 x7_3) ((rd_T75 l0_1 x8_4).f1)))) (ds := []) #[false, false, false, false, false, false, false, false, false, false] (by kernel_rfl) rfl rfl ⟨(blk_cell BK270.out 0).trans rfl, (blk_cell BK270.out 1).trans rfl, (blk_cell BK270.out 2).trans rfl, hx274_0, hx275_0⟩ (fun hHeld => ?_); refine with_tabW marchlandref05_closed.tab23 marchlandref05_closed.bits23 (fun HT_ HW_ => ?_)
                                              generalize w69.drew = w71 at HO_3 HL271_0 BK253 BK270 HR271_0 HB HL274_0 HR274_0 HX274_0 hx274_0 hx275_0 hHeld ⊢
                                              refine pure_ (i := 0) (N := some 82) (v := ?_) (a' := ?_) #[true, false, false, false, false, false, false, false, false, false] rfl rfl (any_of HT_.out (by kernel_rfl)) (fun _ _ _ h => h) (Or.inl ⟨by rfl, ?_⟩) ?_ ?_
                                              rotate_left
                                              · intro w'
                                                go_simp
                                                with_reducible rfl
                                              rotate_left
                                              · simp only [Act.put, List.setIfInBounds_toArray, List.set_cons_zero, List.set_cons_succ, i64_w, i32_w]
                                                rfl
                                              refine pure_ (i := 1) (N := some 83) (v := ?_) (a' := ?_) #[true, true, false, false, false, false, false, false, false, false] rfl rfl (any_of HT_.out (by kernel_rfl)) (fun _ _ _ h => h) (Or.inl ⟨by rfl, ?_⟩) ?_ ?_
                                              rotate_left
                                              · intro w'
                                                go_simp
                                                with_reducible rfl
                                              rotate_left
                                              · simp only [Act.put, List.setIfInBounds_toArray, List.set_cons_zero, List.set_cons_succ, i64_w, i32_w]
                                                rfl
                                              refine pure_ (i := 2) (N := some 84) (v := ?_) (a' := ?_) #[true, true, true, false, false, false, false, false, false, false] rfl rfl (any_of HT_.out (by kernel_rfl)) (fun _ _ _ h => h) (Or.inl ⟨by rfl, ?_⟩) ?_ ?_
                                              rotate_left
                                              · intro w'
                                                go_simp
                                                with_reducible rfl
                                              rotate_left
                                              · simp only [Act.put, List.setIfInBounds_toArray, List.set_cons_zero, List.set_cons_succ, i64_w, i32_w]
                                                rfl
                                              refine pure_ (i := 3) (N := some 85) (v := ?_) (a' := ?_) #[true, true, true, true, false, false, false, false, false, false] rfl rfl (any_of HT_.out (by kernel_rfl)) (fun _ _ _ h => h) (Or.inl ⟨by rfl, ?_⟩) ?_ ?_
                                              rotate_left
                                              · intro w'
                                                go_simp
                                                with_reducible rfl
                                              rotate_left
                                              · simp only [Act.put, List.setIfInBounds_toArray, List.set_cons_zero, List.set_cons_succ, i64_w, i32_w]
                                                rfl
                                              refine pure_ (i := 5) (N := some 87) (v := ?_) (a' := ?_) #[true, true, true, true, false, true, false, false, false, false] rfl rfl (any_of HT_.out (by kernel_rfl)) (fun _ _ _ h => h) (Or.inl ⟨by rfl, ?_⟩) ?_ ?_
                                              rotate_left
                                              · intro w'
                                                go_simp
                                                with_reducible rfl
                                              rotate_left
                                              · simp only [Act.put, List.setIfInBounds_toArray, List.set_cons_zero, List.set_cons_succ, i64_w, i32_w]
                                                rfl
                                              refine take_ (i := 4) (N := some 86) (v := ?_) (a' := ?_) #[true, true, true, true, true, true, false, false, false, false] rfl rfl (take_ofW HT_.out HW_.out (by kernel_rfl)) (fun _ _ _ h => h) (Or.inl ⟨by rfl, ?_⟩) hHeld ?_ ?_
                                              rotate_left
                                              · rintro w' ⟨s0, s1, s2, s3, s4⟩
                                                go_simp
                                                with_reducible rfl
                                              rotate_left
                                              · simp only [Act.put, List.setIfInBounds_toArray, List.set_cons_zero, List.set_cons_succ, i64_w, i32_w]
                                                rfl
                                              refine take_ (i := 6) (N := some 88) (v := ?_) (a' := ?_) #[true, true, true, true, true, true, true, false, false, false] rfl rfl (take_ofW HT_.out HW_.out (by kernel_rfl)) (fun _ _ _ h => h) (Or.inl ⟨by rfl, ?_⟩) hHeld ?_ ?_
                                              rotate_left
                                              · rintro w' ⟨s0, s1, s2, s3, s4⟩
                                                go_simp
                                                with_reducible rfl
                                              rotate_left
                                              · simp only [Act.put, List.setIfInBounds_toArray, List.set_cons_zero, List.set_cons_succ, i64_w, i32_w]
                                                rfl
                                              refine pure_ (i := 7) (N := some 89) (v := ?_) (a' := ?_) #[true, true, true, true, true, true, true, true, false, false] rfl rfl (any_of HT_.out (by kernel_rfl)) (fun _ _ _ h => h) (Or.inl ⟨by rfl, ?_⟩) ?_ ?_
                                              rotate_left
                                              · intro w'
                                                go_simp
                                                with_reducible rfl
                                              rotate_left
                                              · simp only [Act.put, List.setIfInBounds_toArray, List.set_cons_zero, List.set_cons_succ, i64_w, i32_w]
                                                rfl
                                              refine take_ (i := 8) (N := some 90) (v := ?_) (a' := ?_) #[true, true, true, true, true, true, true, true, true, false] rfl rfl (take_ofW HT_.out HW_.out (by kernel_rfl)) (fun _ _ _ h => h) (Or.inl ⟨by rfl, ?_⟩) hHeld ?_ ?_
                                              rotate_left
                                              · rintro w' ⟨s0, s1, s2, s3, s4⟩
                                                go_simp
                                                with_reducible rfl
                                              rotate_left
                                              · simp only [Act.put, List.setIfInBounds_toArray, List.set_cons_zero, List.set_cons_succ, i64_w, i32_w]
                                                rfl
                                              refine pure_ (i := 9) (N := some 91) (v := ?_) (a' := ?_) #[true, true, true, true, true, true, true, true, true, true] rfl rfl (any_of HT_.out (by kernel_rfl)) (fun _ _ _ h => h) (Or.inl ⟨by rfl, ?_⟩) ?_ ?_
                                              rotate_left
                                              · intro w'
                                                go_simp
                                                with_reducible rfl
                                              rotate_left
                                              · simp only [Act.put, List.setIfInBounds_toArray, List.set_cons_zero, List.set_cons_succ, i64_w, i32_w]
                                                rfl
                                              refine done_ (done_of HT_.out (by kernel_rfl)) ?_
                                              try go_wp2
                                              go_roundg k4
                                              case measure => have := HK1.out; have := HK2.out; have := HK3.out; have := HK4.out; omega
                                              case rel => exact ⟨(x3_4), (wrap64 (x8_4 + 1)), (by first | rfl | (simp; done) | (simp [*]; done)), H', ⟨by have := HK1.out; have := HK2.out; have := HK3.out; have := HK4.out; omega⟩, ⟨by (with_reducible repeat (first | apply Kd.S_alloc | apply Kd.S_drewN | apply Kd.S_drew)); exact HO_3.out⟩, ⟨by (with_reducible repeat (first | refine blk_drewN ?_ _ | refine blk_drew ?_ | refine blk_alloc ?_ _)); exact BK253.out⟩, ⟨by repeat (first | (with_reducible first | exact HB.out | apply below_alloc | apply pw_below_drewN | apply below_drew1 | refine below_set ?_ GE253.out | refine below_set ?_ GE270.out) | exact HB.out)⟩⟩
                                          · rw [if_neg c50] at H
                                            exact absurd H (by simp)
                                        · rw [if_neg c49] at H
                                          exact absurd H (by simp)
                                      · rw [if_neg c47] at H
                                        exact absurd H (by simp)
                                    · rw [if_neg c46] at H
                                      exact absurd H (by simp)
                                  · rw [if_neg c45] at H
                                    exact absurd H (by simp)
                                · rw [if_neg c44] at H
                                  exact absurd H (by simp)
                              · rw [if_neg c43] at H
                                exact absurd H (by simp)
                            · rw [if_neg c42] at H
                              have c42b0 : decide (x8_4 < (l0_1.length : Int)) = false := decide_eq_false c42
                              clear c42
                              have H' := Aside0.mk H
                              clear H
                              have hcz72_0 : wr.cell? ⟨gb253, 0, none⟩ = some (.int .i64 a0_0) := (blk_cell BK253.out 0).trans rfl
                              have hcz72_1 : wr.cell? ⟨gb253, 1, none⟩ = some (.slice A0_1 l0_1.length c0_1) := (blk_cell BK253.out 1).trans rfl
                              have hcz72_2 : wr.cell? ⟨gb253, 2, none⟩ = some (.slice A0_2 l0_2.length c0_2) := (blk_cell BK253.out 2).trans rfl
                              have hfz72_0 := blk_frozen BK253.out 0
                              have hfz72_1 := blk_frozen BK253.out 1
                              have hfz72_2 := blk_frozen BK253.out 2
                              go_wp2
                              go_roundg k4
                              case measure => have := HK1.out; have := HK2.out; have := HK3.out; have := HK4.out; omega
                              case rel => exact ⟨(x3_4), (wrap64 (x7_3 + 1)), (by first | rfl | (simp; done) | (simp [*]; done)), H', ⟨by have := HK1.out; have := HK2.out; have := HK3.out; have := HK4.out; omega⟩, ⟨by (with_reducible repeat (first | apply Kd.S_alloc | apply Kd.S_drewN | apply Kd.S_drew)); exact HO_3.out⟩, ⟨by (with_reducible repeat (first | refine blk_drewN ?_ _ | refine blk_drew ?_ | refine blk_alloc ?_ _)); exact BK253.out⟩, ⟨by repeat (first | (with_reducible first | exact HB.out | apply below_alloc | apply pw_below_drewN | apply below_drew1 | refine below_set ?_ GE253.out) | exact HB.out)⟩⟩
                      · rw [if_neg c40] at H
                        have c40b0 : decide (x7_3 < a0_0) = false := decide_eq_false c40
                        clear c40
                        have H' := Aside0.mk H
                        clear H
                        have hcz73_0 : wr.cell? ⟨gb253, 0, none⟩ = some (.int .i64 a0_0) := (blk_cell BK253.out 0).trans rfl
                        have hcz73_1 : wr.cell? ⟨gb253, 1, none⟩ = some (.slice A0_1 l0_1.length c0_1) := (blk_cell BK253.out 1).trans rfl
                        have hcz73_2 : wr.cell? ⟨gb253, 2, none⟩ = some (.slice A0_2 l0_2.length c0_2) := (blk_cell BK253.out 2).trans rfl
                        have hfz73_0 := blk_frozen BK253.out 0
                        have hfz73_1 := blk_frozen BK253.out 1
                        have hfz73_2 := blk_frozen BK253.out 2
                        go_wp2
                        go_roundg k3
                        case measure => have := HK1.out; have := HK2.out; have := HK3.out; omega
                        case rel => exact ⟨(x3_3), (wrap64 (x6_2 + 1)), (by first | rfl | (simp; done) | (simp [*]; done)), H', ⟨by have := HK1.out; have := HK2.out; have := HK3.out; omega⟩, ⟨by (with_reducible repeat (first | apply Kd.S_alloc | apply Kd.S_drewN | apply Kd.S_drew)); exact HO_3.out⟩, ⟨by (with_reducible repeat (first | refine blk_drewN ?_ _ | refine blk_drew ?_ | refine blk_alloc ?_ _)); exact BK253.out⟩, ⟨by repeat (first | (with_reducible first | exact HB.out | apply below_alloc | apply pw_below_drewN | apply below_drew1 | refine below_set ?_ GE253.out) | exact HB.out)⟩⟩
                · rw [if_neg c38] at H
                  have c38b0 : decide (x6_2 < a0_0) = false := decide_eq_false c38
                  clear c38
                  obtain rfl := Option.some.inj H
                  have hcz74_0 : wr.cell? ⟨gb253, 0, none⟩ = some (.int .i64 a0_0) := (blk_cell BK253.out 0).trans rfl
                  have hcz74_1 : wr.cell? ⟨gb253, 1, none⟩ = some (.slice A0_1 l0_1.length c0_1) := (blk_cell BK253.out 1).trans rfl
                  have hcz74_2 : wr.cell? ⟨gb253, 2, none⟩ = some (.slice A0_2 l0_2.length c0_2) := (blk_cell BK253.out 2).trans rfl
                  have hfz74_0 := blk_frozen BK253.out 0
                  have hfz74_1 := blk_frozen BK253.out 1
                  have hfz74_2 := blk_frozen BK253.out 2
                  go_wp2
                  go_ret
                  exact ⟨_, by first | rfl | (simp [errW_none, errW_some] <;> rfl) | (simp [*, errW_none, errW_some] <;> rfl), by (with_reducible repeat (first | apply Kd.S_alloc | apply Kd.S_drewN | apply Kd.S_drew)); exact HO_3.out, by repeat (first | (with_reducible first | exact HB.out | apply below_alloc | apply pw_below_drewN | apply below_drew1 | refine below_set ?_ GE253.out) | exact HB.out)⟩
    · rw [if_neg c3] at H
      exact absurd H (by simp)
  · rw [if_neg c2] at H
    exact absurd H (by simp)
end Go.Proofs.YtgeldmhgbnamcaaDoor.Q
end
