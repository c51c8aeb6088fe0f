/- Walks and laws of several statements of this seat, joined into one text; no condition. -/
import Derived.Test.YtgeldmhgbnamcaaProg
import Derived.Below
import Derived.Deep.Draws
import Derived.Deep.AppendLies
import Derived.Maps.AppendAt
import Derived.OwnWalk
import Derived.Laws.BytesArg
import Derived.Laws.MakeOwn
import Derived.Laws.OwnMore
import Derived.Deep.OwnRows
import Derived.Tactics
import Derived.Lib.ConvBytes
import Derived.Laws.Slices
import Derived.WalkKit
import Derived.KernelRfl
import Derived.RowKit3
import Derived.Deep.LoopGhost
import Derived.Deep.QuietTactic
import Derived.BigQuiet
import Derived.WideLaws
import Derived.Deep.DeepCutAuto
import Derived.Deep.CutBlock
import Derived.Deep.RegionHeld3
import Derived.Laws.Rows
import Derived.Lib.AppendStr
import Derived.ArgAppend
import Derived.Laws.IdiomCopy
import Derived.OrdersHeld
import Derived.Laws.BitsLemmas
import Derived.RowKit
import Derived.Laws.StructEq
import Derived.Lib.BufferMore
import Derived.Test.YtgeldmhgbnamcaaXa0
import Derived.Test.YtgeldmhgbnamcaaXa1
import Derived.Test.YtgeldmhgbnamcaaXa2
import Derived.Test.YtgeldmhgbnamcaaXa3
import Derived.Test.YtgeldmhgbnamcaaXa4
section
-- Printed by the session's own turn of the print (wip/tools/print2.sh): some callees are proved by hand.
namespace Go.Proofs.Ytgeldmhgbnamcaa.P
open Go.RowKit Go.Proofs.YtgeldmhgbnamcaaW.PrintWords Go.Proofs.YtgeldmhgbnamcaaW.PrintLast Go.Proofs.YtgeldmhgbnamcaaW.PrintMore
attribute [local go_sem] max2_int min2_int max_two min_two max_three min_three max_four min_four   -- for this text's walks alone
set_option linter.unusedVariables false
set_option linter.unusedSimpArgs false
/-! ### batch_Change_88: function 88 -/
mutual
def batch_Change_88.l0 : Nat → List (S50) → Int → Int → Int → Int → Option ((List (S50)))
 | 0, _, _, _, _, _ => none
 | k + 1, x0, x1, x6, x7, x8 => if x8 ≤ x1 then ((batch_Change_95.f k x0 x7 x8).bind fun t157 => (batch_Change_88.l0 k t157 x1 x6 x8 (wrap64 (x8 + x6)))) else ((batch_Change_95.f k x0 x7 x1).bind fun t158 => (batch_Change_88.l1 k t158 x1 x6))
def batch_Change_88.l1 : Nat → List (S50) → Int → Int → Option ((List (S50)))
 | 0, _, _, _ => none
 | k + 1, x0, x1, x6 => if x6 < x1 then (batch_Change_88.l2 k x0 x1 x6 0 (wrap64 (2 * x6))) else (some x0)
def batch_Change_88.l2 : Nat → List (S50) → Int → Int → Int → Int → Option ((List (S50)))
 | 0, _, _, _, _, _ => none
 | k + 1, x0, x1, x6, x7, x8 => if x8 ≤ x1 then ((batch_Change_96.f k x0 x7 (wrap64 (x7 + x6)) x8).bind fun t159 => (batch_Change_88.l2 k t159 x1 x6 x8 (wrap64 (x8 + (wrap64 (2 * x6)))))) else (if (wrap64 (x7 + x6)) < x1 then ((batch_Change_96.f k x0 x7 (wrap64 (x7 + x6)) x1).bind fun t160 => (batch_Change_88.l1 k t160 x1 (wrap64 (x6 * 2)))) else (batch_Change_88.l1 k x0 x1 (wrap64 (x6 * 2))))
end
def batch_Change_88.f (k : Nat) (l0 : List (S50)) (a1 : Int)  : Option ((List (S50))) := batch_Change_88.l0 k l0 a1 20 0 20
theorem batch_Change_88.mono_l : ∀ k, (∀ y0 y1 y2 y3 y4, LeO (batch_Change_88.l0 k y0 y1 y2 y3 y4) (batch_Change_88.l0 (k + 1) y0 y1 y2 y3 y4)) ∧ (∀ y0 y1 y2, LeO (batch_Change_88.l1 k y0 y1 y2) (batch_Change_88.l1 (k + 1) y0 y1 y2)) ∧ (∀ y0 y1 y2 y3 y4, LeO (batch_Change_88.l2 k y0 y1 y2 y3 y4) (batch_Change_88.l2 (k + 1) y0 y1 y2 y3 y4))
 | 0 => ⟨fun _ _ _ _ _ r h => by simp [batch_Change_88.l0] at h, fun _ _ _ r h => by simp [batch_Change_88.l1] at h, fun _ _ _ _ _ r h => by simp [batch_Change_88.l2] at h⟩
 | k + 1 => by
  obtain ⟨ih0, ih1, ih2⟩ := batch_Change_88.mono_l k
  refine ⟨?_, ?_, ?_⟩
  ·intro y0 y1 y2 y3 y4
   unfold batch_Change_88.l0
   repeat' first
   | (with_reducible exact ih0 _ _ _ _ _)
   | (with_reducible exact ih1 _ _ _)
   | (with_reducible exact ih2 _ _ _ _ _)
   | (with_reducible exact batch_Change_95.mono _ _ _ _)
   | (with_reducible exact batch_Change_96.mono _ _ _ _ _)
   | (with_reducible exact LeO.refl _)
   | (with_reducible exact LeO.none _)
   | (with_reducible refine LeO.ite ?_ ?_)
   | (with_reducible refine LeO.bind ?_ (fun _ => ?_))
   | exact ih0 _ _ _ _ _
   | exact ih1 _ _ _
   | exact ih2 _ _ _ _ _
   | exact batch_Change_95.mono _ _ _ _
   | exact batch_Change_96.mono _ _ _ _ _
   | exact LeO.none _
   | refine LeO.ite ?_ ?_
   | refine LeO.bind ?_ (fun _ => ?_)
  ·intro y0 y1 y2
   unfold batch_Change_88.l1
   repeat' first
   | (with_reducible exact ih0 _ _ _ _ _)
   | (with_reducible exact ih1 _ _ _)
   | (with_reducible exact ih2 _ _ _ _ _)
   | (with_reducible exact batch_Change_95.mono _ _ _ _)
   | (with_reducible exact batch_Change_96.mono _ _ _ _ _)
   | (with_reducible exact LeO.refl _)
   | (with_reducible exact LeO.none _)
   | (with_reducible refine LeO.ite ?_ ?_)
   | (with_reducible refine LeO.bind ?_ (fun _ => ?_))
   | exact ih0 _ _ _ _ _
   | exact ih1 _ _ _
   | exact ih2 _ _ _ _ _
   | exact batch_Change_95.mono _ _ _ _
   | exact batch_Change_96.mono _ _ _ _ _
   | exact LeO.none _
   | refine LeO.ite ?_ ?_
   | refine LeO.bind ?_ (fun _ => ?_)
  ·intro y0 y1 y2 y3 y4
   unfold batch_Change_88.l2
   repeat' first
   | (with_reducible exact ih0 _ _ _ _ _)
   | (with_reducible exact ih1 _ _ _)
   | (with_reducible exact ih2 _ _ _ _ _)
   | (with_reducible exact batch_Change_95.mono _ _ _ _)
   | (with_reducible exact batch_Change_96.mono _ _ _ _ _)
   | (with_reducible exact LeO.refl _)
   | (with_reducible exact LeO.none _)
   | (with_reducible refine LeO.ite ?_ ?_)
   | (with_reducible refine LeO.bind ?_ (fun _ => ?_))
   | exact ih0 _ _ _ _ _
   | exact ih1 _ _ _
   | exact ih2 _ _ _ _ _
   | exact batch_Change_95.mono _ _ _ _
   | exact batch_Change_96.mono _ _ _ _ _
   | exact LeO.none _
   | refine LeO.ite ?_ ?_
   | refine LeO.bind ?_ (fun _ => ?_)
theorem batch_Change_88.mono : ∀ a0 a1 k, LeO (batch_Change_88.f k a0 a1) (batch_Change_88.f (k + 1) a0 a1) := by
 intro a0 a1 k
 obtain ⟨ih0, ih1, ih2⟩ := batch_Change_88.mono_l k
 unfold batch_Change_88.f
 repeat' first
   | (with_reducible exact ih0 _ _ _ _ _)
   | (with_reducible exact ih1 _ _ _)
   | (with_reducible exact ih2 _ _ _ _ _)
   | (with_reducible exact batch_Change_95.mono _ _ _ _)
   | (with_reducible exact batch_Change_96.mono _ _ _ _ _)
   | (with_reducible exact LeO.refl _)
   | (with_reducible exact LeO.none _)
   | (with_reducible refine LeO.ite ?_ ?_)
   | (with_reducible refine LeO.bind ?_ (fun _ => ?_))
   | exact ih0 _ _ _ _ _
   | exact ih1 _ _ _
   | exact ih2 _ _ _ _ _
   | exact batch_Change_95.mono _ _ _ _
   | exact batch_Change_96.mono _ _ _ _ _
   | exact LeO.none _
   | refine LeO.ite ?_ ?_
   | refine LeO.bind ?_ (fun _ => ?_)
set_option maxHeartbeats 8000000 in
set_option maxRecDepth 100000 in
theorem batch_Change_88.calls (k : Nat) (P0_ : Nat → Prop) (u9000_ : Value) (l0 : List (S50)) (a1 : Int)  (r : List (S50)) (w0 w : World) (hB : Below w0.heap.size w0 w) (ho0 : Kd.R k50 50 w w0.heap.size P0_ u9000_ l0) (h : batch_Change_88.f k l0 a1 = some r) :
  Calls Try.prog 88 #[u9000_, .int .i64 a1, .func (.func 53) #[] #[]] w fun e w' => e = .returned (.tuple #[]) ∧ Kd.R k50 50 w' w0.heap.size (fun k_ => (P0_ k_ ∨ w.heap.size ≤ k_)) u9000_ r ∧ Below w0.heap.size w0 w' ∧ Kept w w' (fun k_ => P0_ k_) := by
 have HO0 := Aside0.mk (show Kd.R k50 50 w w0.heap.size (fun k_ => (P0_ k_ ∨ w.heap.size ≤ k_)) u9000_ l0 from Kd.R_mono ho0 (fun k_ hk => (.inl hk)))
 have HK := Aside0.mk (Kept.refl w (fun k_ => P0_ k_))
 have HW0 := Aside0.mk hB.size
 have HB := Aside0.mk hB
 clear hB
 have H : (batch_Change_88.l0 k l0 a1 20 0 20) = some r := h
 clear h
 have H' := Aside0.mk H
 clear H
 go_enter Try.func88, Try.ntmps88
 go_wp2
 (try simp only [Act.put, List.setIfInBounds_toArray, List.set_cons_zero, List.set_cons_succ])
 go_loopg [7, 8] k (fun kq v7 v8 w' => ∃ (x0_1 : List (S50)) (x7_1 : Int) (x8_1 : Int), v7 = .int .i64 x7_1 ∧ v8 = .int .i64 x8_1 ∧ Aside0 (batch_Change_88.l0 kq x0_1 a1 20 x7_1 x8_1 = some r) ∧ Aside0 (kq ≤ k) ∧ Aside0 (Kd.R k50 50 w' w0.heap.size (fun k_ => (P0_ k_ ∨ w.heap.size ≤ k_)) u9000_ x0_1) ∧ Aside0 (Kept w w' (fun k_ => P0_ k_)) ∧ Aside0 (Below w0.heap.size w0 w'))
 case atStart => exact ⟨(l0), (0), (20), (by first | rfl | (simp; done) | (simp [*]; done)), (by first | rfl | (simp; done) | (simp [*]; done)), H', ⟨Nat.le_refl _⟩, ⟨by (with_reducible repeat (first | apply Kd.R_alloc | apply Kd.R_drewN | apply Kd.R_drew)); exact HO0.out⟩, ⟨by repeat (first | (with_reducible first | exact HK.out | apply Kept.alloc | apply Kept.drewN | apply Kept.drew) | exact HK.out)⟩, ⟨by repeat (first | (with_reducible first | exact HB.out | apply below_alloc | apply pw_below_drewN | apply below_drew1) | exact HB.out)⟩⟩
 case round =>
  clear H'
  (try clear p2)
  obtain ⟨x0_1, x7_1, x8_1, rfl, rfl, HA, HK1, HO_0, HK, HB⟩ := hrel
  cases gk with
  | zero => exact absurd HA.out (by simp [batch_Change_88.l0])
  | succ k1 =>
   have H := HA.out
   clear HA
   simp only [batch_Change_88.l0] at H
   by_cases c4 : x8_1 ≤ a1
   ·rw [if_pos c4] at H
    have c4b0 : decide (x8_1 ≤ a1) = true := decide_eq_true c4
    clear c4
    replace H := Option.bind_eq_some_iff.mp H
    obtain ⟨t157, A50, H⟩ := H
    replace H : (batch_Change_88.l0 k1 t157 a1 20 x8_1 (wrap64 (x8_1 + 20))) = some r := H
    have A5 := Aside0.mk A50
    clear A50
    have H' := Aside0.mk H
    clear H
    obtain ⟨Ao6, co6, eo6⟩ := Kd.R_slice HO_0.out
    subst eo6
    go_wp2_with (first | ((with_reducible refine gate_callee (f := 95) rfl ?_); refine gl (some 18) Try.func95 #[.slice Ao6 x0_1.length co6, .int .i64 x7_1, .int .i64 x8_1, .func (.func 53) #[] #[]] ?_; (with_reducible refine (batch_Change_95.calls k1 (fun k_ => some k_ = (.slice Ao6 x0_1.length co6 : Value).ownBlock) (.slice Ao6 x0_1.length co6) x0_1 x7_1 x8_1  t157 w0 _ ?side1 ?side2 A5.out).mono ?_); (case side1 => repeat (first | (with_reducible first | exact HB.out | apply below_alloc | apply pw_below_drewN | apply below_drew1) | exact HB.out)); (case side2 => exact Kd.R_tight rfl HO_0.out); rintro e w7 ⟨rfl, hy0, hb, hkp⟩; refine ⟨_, rfl, ?_⟩; have n0_ := Aside0.mk (Kd.R_reok rfl hy0 (fun k_ e_ => HO_0.out.1 k_ e_)); have n1_ := Aside0.mk (Kept.then_ (S := (fun k_ => P0_ k_)) (by repeat (first | (with_reducible first | exact HK.out | apply Kept.alloc | apply Kept.drewN | apply Kept.drew) | exact HK.out)) hkp (fun k_ hs_ => (fun e_ => (HO_0.out.1 k_ e_.symm)) hs_)); have n2_ := Aside0.mk (hb); clear HO_0; clear HK; clear HB; have HO_0 := n0_; have HK := n1_; have HB := n2_; clear n0_ n1_ n2_; (try clear hb); (try clear hkp); (try clear hy0)))
    go_roundg k1
    case measure => have := HK1.out; omega
    case rel => exact ⟨(t157), (x8_1), (wrap64 (x8_1 + 20)), (by first | rfl | (simp; done) | (simp [*]; done)), (by first | rfl | (simp; done) | (simp [*]; done)), H', ⟨by have := HK1.out; omega⟩, ⟨by (with_reducible repeat (first | apply Kd.R_alloc | apply Kd.R_drewN | apply Kd.R_drew)); exact HO_0.out⟩, ⟨by repeat (first | (with_reducible first | exact HK.out | apply Kept.alloc | apply Kept.drewN | apply Kept.drew) | exact HK.out)⟩, ⟨by repeat (first | (with_reducible first | exact HB.out | apply below_alloc | apply pw_below_drewN | apply below_drew1) | exact HB.out)⟩⟩
   ·rw [if_neg c4] at H
    have c4b0 : decide (x8_1 ≤ a1) = false := decide_eq_false c4
    clear c4
    replace H := Option.bind_eq_some_iff.mp H
    obtain ⟨t158, A80, H⟩ := H
    replace H : (batch_Change_88.l1 k1 t158 a1 20) = some r := H
    have A8 := Aside0.mk A80
    clear A80
    have H' := Aside0.mk H
    clear H
    obtain ⟨Ao9, co9, eo9⟩ := Kd.R_slice HO_0.out
    subst eo9
    go_wp2_with (first | ((with_reducible refine gate_callee (f := 95) rfl ?_); refine gl (some 27) Try.func95 #[.slice Ao9 x0_1.length co9, .int .i64 x7_1, .int .i64 a1, .func (.func 53) #[] #[]] ?_; (with_reducible refine (batch_Change_95.calls k1 (fun k_ => some k_ = (.slice Ao9 x0_1.length co9 : Value).ownBlock) (.slice Ao9 x0_1.length co9) x0_1 x7_1 a1  t158 w0 _ ?side1 ?side2 A8.out).mono ?_); (case side1 => repeat (first | (with_reducible first | exact HB.out | apply below_alloc | apply pw_below_drewN | apply below_drew1) | exact HB.out)); (case side2 => exact Kd.R_tight rfl HO_0.out); rintro e w10 ⟨rfl, hy0, hb, hkp⟩; refine ⟨_, rfl, ?_⟩; have n0_ := Aside0.mk (Kd.R_reok rfl hy0 (fun k_ e_ => HO_0.out.1 k_ e_)); have n1_ := Aside0.mk (Kept.then_ (S := (fun k_ => P0_ k_)) (by repeat (first | (with_reducible first | exact HK.out | apply Kept.alloc | apply Kept.drewN | apply Kept.drew) | exact HK.out)) hkp (fun k_ hs_ => (fun e_ => (HO_0.out.1 k_ e_.symm)) hs_)); have n2_ := Aside0.mk (hb); clear HO_0; clear HK; clear HB; have HO_0 := n0_; have HK := n1_; have HB := n2_; clear n0_ n1_ n2_; (try clear hb); (try clear hkp); (try clear hy0)))
    (try simp only [Act.put, List.setIfInBounds_toArray, List.set_cons_zero, List.set_cons_succ])
    go_loopg [6] k1 (fun kq v6 w' => ∃ (x0_2 : List (S50)) (x6_2 : Int), v6 = .int .i64 x6_2 ∧ Aside0 (batch_Change_88.l1 kq x0_2 a1 x6_2 = some r) ∧ Aside0 (kq ≤ k1) ∧ Aside0 (Kd.R k50 50 w' w0.heap.size (fun k_ => (P0_ k_ ∨ w.heap.size ≤ k_)) (.slice Ao9 x0_1.length co9) x0_2) ∧ Aside0 (Kept w w' (fun k_ => P0_ k_)) ∧ Aside0 (Below w0.heap.size w0 w'))
    case atStart => exact ⟨(t158), (20), (by first | rfl | (simp; done) | (simp [*]; done)), H', ⟨Nat.le_refl _⟩, ⟨by (with_reducible repeat (first | apply Kd.R_alloc | apply Kd.R_drewN | apply Kd.R_drew)); exact HO_0.out⟩, ⟨by repeat (first | (with_reducible first | exact HK.out | apply Kept.alloc | apply Kept.drewN | apply Kept.drew) | exact HK.out)⟩, ⟨by repeat (first | (with_reducible first | exact HB.out | apply below_alloc | apply pw_below_drewN | apply below_drew1) | exact HB.out)⟩⟩
    case round =>
     clear H'
     (try clear p2); (try clear c4); (try clear c4b0); (try clear p6); (try clear c8); (try clear c9); (try clear p2)
     obtain ⟨x0_2, x6_2, rfl, HA, HK2, HO_0, HK, HB⟩ := hrel
     have hl0_2 := (Kd.R_reads' HO_0.out).1
     rw [hl0_2] at HO_0
     (try simp only [hl0_2])
     cases gk with
     | zero => exact absurd HA.out (by simp [batch_Change_88.l1])
     | succ k2 =>
      have H := HA.out
      clear HA
      simp only [batch_Change_88.l1] at H
      by_cases c11 : x6_2 < a1
      ·rw [if_pos c11] at H
       have c11b0 : decide (x6_2 < a1) = true := decide_eq_true c11
       clear c11
       have H' := Aside0.mk H
       clear H
       go_wp2
       (try simp only [Act.put, List.setIfInBounds_toArray, List.set_cons_zero, List.set_cons_succ])
       go_loopg [7, 8] k2 (fun kq v7 v8 w' => ∃ (x0_3 : List (S50)) (x7_3 : Int) (x8_3 : Int), v7 = .int .i64 x7_3 ∧ v8 = .int .i64 x8_3 ∧ Aside0 (batch_Change_88.l2 kq x0_3 a1 x6_2 x7_3 x8_3 = some r) ∧ Aside0 (kq ≤ k2) ∧ Aside0 (Kd.R k50 50 w' w0.heap.size (fun k_ => (P0_ k_ ∨ w.heap.size ≤ k_)) (.slice Ao9 x0_2.length co9) x0_3) ∧ Aside0 (Kept w w' (fun k_ => P0_ k_)) ∧ Aside0 (Below w0.heap.size w0 w'))
       case atStart => exact ⟨(x0_2), (0), (wrap64 (2 * x6_2)), (by first | rfl | (simp; done) | (simp [*]; done)), (by first | rfl | (simp; done) | (simp [*]; done)), H', ⟨Nat.le_refl _⟩, ⟨by (try simp only [hl0_2]); (with_reducible repeat (first | apply Kd.R_alloc | apply Kd.R_drewN | apply Kd.R_drew)); exact HO_0.out⟩, ⟨by repeat (first | (with_reducible first | exact HK.out | apply Kept.alloc | apply Kept.drewN | apply Kept.drew) | exact HK.out)⟩, ⟨by repeat (first | (with_reducible first | exact HB.out | apply below_alloc | apply pw_below_drewN | apply below_drew1) | exact HB.out)⟩⟩
       case round =>
        clear H'
        (try clear c1); (try clear p2); (try clear c4); (try clear c4b0); (try clear p6); (try clear c8); (try clear c9); (try clear c11); (try clear c11b0); (try clear p2); (try clear p6)
        obtain ⟨x0_3, x7_3, x8_3, rfl, rfl, HA, HK3, HO_0, HK, HB⟩ := hrel
        have hl0_3 := (Kd.R_reads' HO_0.out).1
        rw [hl0_3] at HO_0
        (try simp only [hl0_3])
        cases gk with
        | zero => exact absurd HA.out (by simp [batch_Change_88.l2])
        | succ k3 =>
         have H := HA.out
         clear HA
         simp only [batch_Change_88.l2] at H
         by_cases c12 : x8_3 ≤ a1
         ·rw [if_pos c12] at H
          have c12b0 : decide (x8_3 ≤ a1) = true := decide_eq_true c12
          clear c12
          replace H := Option.bind_eq_some_iff.mp H
          obtain ⟨t159, A130, H⟩ := H
          replace H : (batch_Change_88.l2 k3 t159 a1 x6_2 x8_3 (wrap64 (x8_3 + (wrap64 (2 * x6_2))))) = some r := H
          have A13 := Aside0.mk A130
          clear A130
          have H' := Aside0.mk H
          clear H
          go_wp2_with (first | ((with_reducible refine gate_callee (f := 96) rfl ?_); refine gl (some 43) Try.func96 #[.slice Ao9 x0_3.length co9, .int .i64 x7_3, .int .i64 (wrap64 (x7_3 + x6_2)), .int .i64 x8_3, .func (.func 53) #[] #[]] ?_; (with_reducible refine (batch_Change_96.calls k3 (fun k_ => some k_ = (.slice Ao9 x0_3.length co9 : Value).ownBlock) (.slice Ao9 x0_3.length co9) x0_3 x7_3 (wrap64 (x7_3 + x6_2)) x8_3  t159 w0 _ ?side1 ?side2 A13.out).mono ?_); (case side1 => repeat (first | (with_reducible first | exact HB.out | apply below_alloc | apply pw_below_drewN | apply below_drew1) | exact HB.out)); (case side2 => exact Kd.R_tight rfl HO_0.out); rintro e w14 ⟨rfl, hy0, hb, hkp⟩; refine ⟨_, rfl, ?_⟩; have n0_ := Aside0.mk (Kd.R_reok rfl hy0 (fun k_ e_ => HO_0.out.1 k_ e_)); have n1_ := Aside0.mk (Kept.then_ (S := (fun k_ => P0_ k_)) (by repeat (first | (with_reducible first | exact HK.out | apply Kept.alloc | apply Kept.drewN | apply Kept.drew) | exact HK.out)) hkp (fun k_ hs_ => (fun e_ => (HO_0.out.1 k_ e_.symm)) hs_)); have n2_ := Aside0.mk (hb); clear HO_0; clear HK; clear HB; have HO_0 := n0_; have HK := n1_; have HB := n2_; clear n0_ n1_ n2_; (try clear hb); (try clear hkp); (try clear hy0)))
          (try simp only [← hl0_3])
          go_roundg k3
          case measure => have := HK1.out; have := HK2.out; have := HK3.out; omega
          case rel => exact ⟨(t159), (x8_3), (wrap64 (x8_3 + (wrap64 (2 * x6_2)))), (by first | rfl | (simp; done) | (simp [*]; done)), (by first | rfl | (simp; done) | (simp [*]; done)), H', ⟨by have := HK1.out; have := HK2.out; have := HK3.out; omega⟩, ⟨by (try simp only [hl0_2]); (try simp only [hl0_3]); (with_reducible repeat (first | apply Kd.R_alloc | apply Kd.R_drewN | apply Kd.R_drew)); exact HO_0.out⟩, ⟨by repeat (first | (with_reducible first | exact HK.out | apply Kept.alloc | apply Kept.drewN | apply Kept.drew) | exact HK.out)⟩, ⟨by repeat (first | (with_reducible first | exact HB.out | apply below_alloc | apply pw_below_drewN | apply below_drew1) | exact HB.out)⟩⟩
         ·rw [if_neg c12] at H
          have c12b0 : decide (x8_3 ≤ a1) = false := decide_eq_false c12
          clear c12
          by_cases c15 : (wrap64 (x7_3 + x6_2)) < a1
          ·rw [if_pos c15] at H
           have c15b0 : decide ((wrap64 (x7_3 + x6_2)) < a1) = true := decide_eq_true c15
           clear c15
           replace H := Option.bind_eq_some_iff.mp H
           obtain ⟨t160, A160, H⟩ := H
           replace H : (batch_Change_88.l1 k3 t160 a1 (wrap64 (x6_2 * 2))) = some r := H
           have A16 := Aside0.mk A160
           clear A160
           have H' := Aside0.mk H
           clear H
           go_wp2_with (first | ((with_reducible refine gate_callee (f := 96) rfl ?_); refine gl (some 60) Try.func96 #[.slice Ao9 x0_3.length co9, .int .i64 x7_3, .int .i64 (wrap64 (x7_3 + x6_2)), .int .i64 a1, .func (.func 53) #[] #[]] ?_; (with_reducible refine (batch_Change_96.calls k3 (fun k_ => some k_ = (.slice Ao9 x0_3.length co9 : Value).ownBlock) (.slice Ao9 x0_3.length co9) x0_3 x7_3 (wrap64 (x7_3 + x6_2)) a1  t160 w0 _ ?side1 ?side2 A16.out).mono ?_); (case side1 => repeat (first | (with_reducible first | exact HB.out | apply below_alloc | apply pw_below_drewN | apply below_drew1) | exact HB.out)); (case side2 => exact Kd.R_tight rfl HO_0.out); rintro e w17 ⟨rfl, hy0, hb, hkp⟩; refine ⟨_, rfl, ?_⟩; have n0_ := Aside0.mk (Kd.R_reok rfl hy0 (fun k_ e_ => HO_0.out.1 k_ e_)); have n1_ := Aside0.mk (Kept.then_ (S := (fun k_ => P0_ k_)) (by repeat (first | (with_reducible first | exact HK.out | apply Kept.alloc | apply Kept.drewN | apply Kept.drew) | exact HK.out)) hkp (fun k_ hs_ => (fun e_ => (HO_0.out.1 k_ e_.symm)) hs_)); have n2_ := Aside0.mk (hb); clear HO_0; clear HK; clear HB; have HO_0 := n0_; have HK := n1_; have HB := n2_; clear n0_ n1_ n2_; (try clear hb); (try clear hkp); (try clear hy0)))
           (try simp only [← hl0_2, ← hl0_3])
           go_roundg k3
           case measure => have := HK1.out; have := HK2.out; have := HK3.out; omega
           case rel => exact ⟨(t160), (wrap64 (x6_2 * 2)), (by first | rfl | (simp; done) | (simp [*]; done)), H', ⟨by have := HK1.out; have := HK2.out; have := HK3.out; omega⟩, ⟨by (try simp only [hl0_2]); (try simp only [hl0_3]); (with_reducible repeat (first | apply Kd.R_alloc | apply Kd.R_drewN | apply Kd.R_drew)); exact HO_0.out⟩, ⟨by repeat (first | (with_reducible first | exact HK.out | apply Kept.alloc | apply Kept.drewN | apply Kept.drew) | exact HK.out)⟩, ⟨by repeat (first | (with_reducible first | exact HB.out | apply below_alloc | apply pw_below_drewN | apply below_drew1) | exact HB.out)⟩⟩
          ·rw [if_neg c15] at H
           have c15b0 : decide ((wrap64 (x7_3 + x6_2)) < a1) = false := decide_eq_false c15
           clear c15
           have H' := Aside0.mk H
           clear H
           go_wp2
           (try simp only [← hl0_2, ← hl0_3])
           go_roundg k3
           case measure => have := HK1.out; have := HK2.out; have := HK3.out; omega
           case rel => exact ⟨(x0_3), (wrap64 (x6_2 * 2)), (by first | rfl | (simp; done) | (simp [*]; done)), H', ⟨by have := HK1.out; have := HK2.out; have := HK3.out; omega⟩, ⟨by (try simp only [hl0_2]); (try simp only [hl0_3]); (with_reducible repeat (first | apply Kd.R_alloc | apply Kd.R_drewN | apply Kd.R_drew)); exact HO_0.out⟩, ⟨by repeat (first | (with_reducible first | exact HK.out | apply Kept.alloc | apply Kept.drewN | apply Kept.drew) | exact HK.out)⟩, ⟨by repeat (first | (with_reducible first | exact HB.out | apply below_alloc | apply pw_below_drewN | apply below_drew1) | exact HB.out)⟩⟩
      ·rw [if_neg c11] at H
       have c11b0 : decide (x6_2 < a1) = false := decide_eq_false c11
       clear c11
       obtain rfl := Option.some.inj H
       go_wp2
       first | go_end0 | ((try simp only [Exit.inBlock, Exit.then]); refine bodyPost_ret (results_none rfl _ _ _) rfl ?_)
       exact ⟨by first | rfl | (simp [errW_none, errW_some] <;> rfl) | (simp [*, errW_none, errW_some] <;> rfl), (by first | exact (rn HO_0) | (simp only [hl0_2]; exact (rn HO_0))), by repeat (first | (with_reducible first | exact HB.out | apply below_alloc | apply pw_below_drewN | apply below_drew1) | exact HB.out), by repeat (first | (with_reducible first | exact HK.out | apply Kept.alloc | apply Kept.drewN | apply Kept.drew) | exact HK.out)⟩
end Go.Proofs.Ytgeldmhgbnamcaa.P
end
section
-- Printed by the session's own turn of the print (wip/tools/print2.sh): some callees are proved by hand.
namespace Go.Proofs.Ytgeldmhgbnamcaa.P
open Go.RowKit Go.Proofs.YtgeldmhgbnamcaaW.PrintWords Go.Proofs.YtgeldmhgbnamcaaW.PrintLast Go.Proofs.YtgeldmhgbnamcaaW.PrintMore
attribute [local go_sem] max2_int min2_int max_two min_two max_three min_three max_four min_four   -- for this text's walks alone
set_option linter.unusedVariables false
set_option linter.unusedSimpArgs false
/-! ### batch_Change_74: function 74 -/
def batch_Change_74.f (k : Nat) (l0 : List (S50))  : Option ((List (S50))) := (batch_Change_88.f k l0 (l0.length : Int)).bind fun t161 => (some t161)
theorem batch_Change_74.mono : ∀ a0 k, LeO (batch_Change_74.f k a0) (batch_Change_74.f (k + 1) a0) := by
 intro a0 k
 unfold batch_Change_74.f
 repeat' first
   | (with_reducible exact batch_Change_88.mono _ _ _)
   | (with_reducible exact LeO.refl _)
   | (with_reducible exact LeO.none _)
   | (with_reducible refine LeO.ite ?_ ?_)
   | (with_reducible refine LeO.bind ?_ (fun _ => ?_))
   | exact batch_Change_88.mono _ _ _
   | exact LeO.none _
   | refine LeO.ite ?_ ?_
   | refine LeO.bind ?_ (fun _ => ?_)
set_option maxHeartbeats 8000000 in
set_option maxRecDepth 100000 in
theorem batch_Change_74.calls (k : Nat) (P0_ : Nat → Prop) (u9000_ : Value) (l0 : List (S50))  (r : List (S50)) (w0 w : World) (hB : Below w0.heap.size w0 w) (ho0 : Kd.R k50 50 w w0.heap.size P0_ u9000_ l0) (h : batch_Change_74.f k l0 = some r) :
  Calls Try.prog 74 #[u9000_, .func (.func 53) #[] #[]] w fun e w' => e = .returned (.tuple #[]) ∧ Kd.R k50 50 w' w0.heap.size (fun k_ => (P0_ k_ ∨ w.heap.size ≤ k_)) u9000_ r ∧ Below w0.heap.size w0 w' ∧ Kept w w' (fun k_ => P0_ k_) := by
 have HO0 := Aside0.mk (show Kd.R k50 50 w w0.heap.size (fun k_ => (P0_ k_ ∨ w.heap.size ≤ k_)) u9000_ l0 from Kd.R_mono ho0 (fun k_ hk => (.inl hk)))
 have HK := Aside0.mk (Kept.refl w (fun k_ => P0_ k_))
 have HW0 := Aside0.mk hB.size
 have HB := Aside0.mk hB
 clear hB
 have H : ((batch_Change_88.f k l0 (l0.length : Int)).bind fun t161 => (some t161)) = some r := h
 clear h
 replace H := Option.bind_eq_some_iff.mp H
 obtain ⟨t161, A30, H⟩ := H
 replace H : (some t161) = some r := H
 have A3 := Aside0.mk A30
 clear A30
 obtain rfl := Option.some.inj H
 obtain ⟨Ao4, co4, eo4⟩ := Kd.R_slice HO0.out
 subst eo4
 go_enter Try.func74, Try.ntmps74
 go_wp2_with (first | ((with_reducible refine gate_callee (f := 88) rfl ?_); refine gl (some 8) Try.func88 #[.slice Ao4 l0.length co4, .int .i64 (l0.length : Int), .func (.func 53) #[] #[]] ?_; (with_reducible refine (batch_Change_88.calls k (fun k_ => some k_ = (.slice Ao4 l0.length co4 : Value).ownBlock) (.slice Ao4 l0.length co4) l0 (l0.length : Int)  t161 w0 _ ?side1 ?side2 A3.out).mono ?_); (case side1 => repeat (first | (with_reducible first | exact HB.out | apply below_alloc | apply pw_below_drewN | apply below_drew1) | exact HB.out)); (case side2 => exact Kd.R_tight rfl HO0.out); rintro e w5 ⟨rfl, hy0, hb, hkp⟩; refine ⟨_, rfl, ?_⟩; have n0_ := Aside0.mk (Kd.R_reok rfl hy0 (fun k_ e_ => HO0.out.1 k_ e_)); have n1_ := Aside0.mk (Kept.then_ (S := (fun k_ => P0_ k_)) (by repeat (first | (with_reducible first | exact HK.out | apply Kept.alloc | apply Kept.drewN | apply Kept.drew) | exact HK.out)) hkp (fun k_ hs_ => (fun e_ => (HO0.out.1 k_ e_.symm)) hs_)); have n2_ := Aside0.mk (hb); clear HO0; clear HK; clear HB; have HO0 := n0_; have HK := n1_; have HB := n2_; clear n0_ n1_ n2_; (try clear hb); (try clear hkp); (try clear hy0)))
 first | go_end0 | ((try simp only [Exit.inBlock, Exit.then]); refine bodyPost_ret (results_none rfl _ _ _) rfl ?_)
 exact ⟨by first | rfl | (simp [errW_none, errW_some] <;> rfl) | (simp [*, errW_none, errW_some] <;> rfl), by (with_reducible repeat (first | apply Kd.R_alloc | apply Kd.R_drewN | apply Kd.R_drew)); exact HO0.out, by repeat (first | (with_reducible first | exact HB.out | apply below_alloc | apply pw_below_drewN | apply below_drew1) | exact HB.out), by repeat (first | (with_reducible first | exact HK.out | apply Kept.alloc | apply Kept.drewN | apply Kept.drew) | exact HK.out)⟩
end Go.Proofs.Ytgeldmhgbnamcaa.P
end
section
-- Printed by the session's own turn of the print (wip/tools/print2.sh): some callees are proved by hand.
namespace Go.Proofs.Ytgeldmhgbnamcaa.P
open Go.RowKit Go.Proofs.YtgeldmhgbnamcaaW.PrintWords Go.Proofs.YtgeldmhgbnamcaaW.PrintLast Go.Proofs.YtgeldmhgbnamcaaW.PrintMore
attribute [local go_sem] max2_int min2_int max_two min_two max_three min_three max_four min_four   -- for this text's walks alone
set_option linter.unusedVariables false
set_option linter.unusedSimpArgs false
/-! ### batch_summed: function 49 -/
mutual
def batch_summed.l0 : Nat → List (S50) → List (S50) → Int → Option ((List (S50)) × Int × (List (S50)))
 | 0, _, _, _ => none
 | k + 1, x0, x4, x5 => if x5 < (x0.length : Int) then (if 0 ≤ x5 then (batch_summed.l1 k x0 x4 (wrap64 (x5 + 1)) ((rd_T50 x0 x5).f0) ((rd_T50 x0 x5).f1) ((rd_T50 x0 x5).f2)) else (none)) else (some (x4, 0, x0))
def batch_summed.j2 : Nat → List (S50) → List (S50) → Int → Int → Int → Int → Option ((List (S50)) × Int × (List (S50)))
 | 0, _, _, _, _, _, _ => none
 | k + 1, x0, x4, x5, x165000, x165001, x165002 => (batch_within.f x165002).bind fun t168 => (if t168 = true then (if x165002 = 0 then (batch_summed.l0 k x0 x4 x5) else (if x4.length < 5864062014805 then (batch_summed.l0 k x0 (x4 ++ [(⟨x165000, x165001, x165002⟩ : S50)]) x5) else (none))) else (some (([] : List (S50)), 10, x0)))
def batch_summed.l1 : Nat → List (S50) → List (S50) → Int → Int → Int → Int → Option ((List (S50)) × Int × (List (S50)))
 | 0, _, _, _, _, _, _ => none
 | k + 1, x0, x4, x5, x165000, x165001, x165002 => if x5 < (x0.length : Int) then (if 0 ≤ x5 then ((batch_order.f k ((rd_T50 x0 x5).f0) ((rd_T50 x0 x5).f1) ((rd_T50 x0 x5).f2) x165000 x165001 x165002).bind fun t166 => (if t166 = 0 then (batch_summed.l1 k x0 x4 (wrap64 (x5 + 1)) x165000 x165001 (wrap64 (x165002 + ((rd_T50 x0 x5).f2)))) else (batch_summed.j2 k x0 x4 x5 x165000 x165001 x165002))) else (none)) else (batch_summed.j2 k x0 x4 x5 x165000 x165001 x165002)
end
def batch_summed.f (k : Nat) (l0 : List (S50)) : Option ((List (S50)) × Int × (List (S50))) := (batch_Change_74.f k l0).bind fun t162 => (batch_summed.l0 k t162 ([] : List (S50)) 0)
theorem batch_summed.mono_l : ∀ k, (∀ y0 y1 y2, LeO (batch_summed.l0 k y0 y1 y2) (batch_summed.l0 (k + 1) y0 y1 y2)) ∧ (∀ y0 y1 y2 y3 y4 y5, LeO (batch_summed.j2 k y0 y1 y2 y3 y4 y5) (batch_summed.j2 (k + 1) y0 y1 y2 y3 y4 y5)) ∧ (∀ y0 y1 y2 y3 y4 y5, LeO (batch_summed.l1 k y0 y1 y2 y3 y4 y5) (batch_summed.l1 (k + 1) y0 y1 y2 y3 y4 y5))
 | 0 => ⟨fun _ _ _ r h => by simp [batch_summed.l0] at h, fun _ _ _ _ _ _ r h => by simp [batch_summed.j2] at h, fun _ _ _ _ _ _ r h => by simp [batch_summed.l1] at h⟩
 | k + 1 => by
  obtain ⟨ih0, ih1, ih2⟩ := batch_summed.mono_l k
  refine ⟨?_, ?_, ?_⟩
  ·intro y0 y1 y2
   unfold batch_summed.l0
   repeat' first
   | (with_reducible exact ih0 _ _ _)
   | (with_reducible exact ih1 _ _ _ _ _ _)
   | (with_reducible exact ih2 _ _ _ _ _ _)
   | (with_reducible exact batch_Change_74.mono _ _)
   | (with_reducible exact batch_order.mono _ _ _ _ _ _ _)
   | (with_reducible exact LeO.refl _)
   | (with_reducible exact LeO.none _)
   | (with_reducible refine LeO.ite ?_ ?_)
   | (with_reducible refine LeO.bind ?_ (fun _ => ?_))
   | exact ih0 _ _ _
   | exact ih1 _ _ _ _ _ _
   | exact ih2 _ _ _ _ _ _
   | exact batch_Change_74.mono _ _
   | exact batch_order.mono _ _ _ _ _ _ _
   | exact LeO.none _
   | refine LeO.ite ?_ ?_
   | refine LeO.bind ?_ (fun _ => ?_)
  ·intro y0 y1 y2 y3 y4 y5
   unfold batch_summed.j2
   repeat' first
   | (with_reducible exact ih0 _ _ _)
   | (with_reducible exact ih1 _ _ _ _ _ _)
   | (with_reducible exact ih2 _ _ _ _ _ _)
   | (with_reducible exact batch_Change_74.mono _ _)
   | (with_reducible exact batch_order.mono _ _ _ _ _ _ _)
   | (with_reducible exact LeO.refl _)
   | (with_reducible exact LeO.none _)
   | (with_reducible refine LeO.ite ?_ ?_)
   | (with_reducible refine LeO.bind ?_ (fun _ => ?_))
   | exact ih0 _ _ _
   | exact ih1 _ _ _ _ _ _
   | exact ih2 _ _ _ _ _ _
   | exact batch_Change_74.mono _ _
   | exact batch_order.mono _ _ _ _ _ _ _
   | exact LeO.none _
   | refine LeO.ite ?_ ?_
   | refine LeO.bind ?_ (fun _ => ?_)
  ·intro y0 y1 y2 y3 y4 y5
   unfold batch_summed.l1
   repeat' first
   | (with_reducible exact ih0 _ _ _)
   | (with_reducible exact ih1 _ _ _ _ _ _)
   | (with_reducible exact ih2 _ _ _ _ _ _)
   | (with_reducible exact batch_Change_74.mono _ _)
   | (with_reducible exact batch_order.mono _ _ _ _ _ _ _)
   | (with_reducible exact LeO.refl _)
   | (with_reducible exact LeO.none _)
   | (with_reducible refine LeO.ite ?_ ?_)
   | (with_reducible refine LeO.bind ?_ (fun _ => ?_))
   | exact ih0 _ _ _
   | exact ih1 _ _ _ _ _ _
   | exact ih2 _ _ _ _ _ _
   | exact batch_Change_74.mono _ _
   | exact batch_order.mono _ _ _ _ _ _ _
   | exact LeO.none _
   | refine LeO.ite ?_ ?_
   | refine LeO.bind ?_ (fun _ => ?_)
theorem batch_summed.mono : ∀ a0 k, LeO (batch_summed.f k a0) (batch_summed.f (k + 1) a0) := by
 intro a0 k
 obtain ⟨ih0, ih1, ih2⟩ := batch_summed.mono_l k
 unfold batch_summed.f
 repeat' first
   | (with_reducible exact ih0 _ _ _)
   | (with_reducible exact ih1 _ _ _ _ _ _)
   | (with_reducible exact ih2 _ _ _ _ _ _)
   | (with_reducible exact batch_Change_74.mono _ _)
   | (with_reducible exact batch_order.mono _ _ _ _ _ _ _)
   | (with_reducible exact LeO.refl _)
   | (with_reducible exact LeO.none _)
   | (with_reducible refine LeO.ite ?_ ?_)
   | (with_reducible refine LeO.bind ?_ (fun _ => ?_))
   | exact ih0 _ _ _
   | exact ih1 _ _ _ _ _ _
   | exact ih2 _ _ _ _ _ _
   | exact batch_Change_74.mono _ _
   | exact batch_order.mono _ _ _ _ _ _ _
   | exact LeO.none _
   | refine LeO.ite ?_ ?_
   | refine LeO.bind ?_ (fun _ => ?_)
def batch_summed.T7 : Bool × List (List Nat × List Nat) := (true, [([], []), ([], []), ([1], [1]), ([0, 2], [0, 2]), ([3], [3]), ([4], [4]), ([4], [4]), ([5, 6, 4], [4, 5, 6]), ([7, 4], [4, 7]), ([4], [4]), ([8, 9, 4, 4], [4, 8, 9]), ([10, 4], [4, 10]), ([4, 11], [4, 11])])
def batch_summed.B7 : List Nat := [0, 0, 2, 7, 15, 31, 31, 127, 255, 31, 1023, 2047, 4095]
theorem batch_summed.tab7 : rtab .any (opsOf Try.f49 7) = batch_summed.T7 := by kernel_rfl
theorem batch_summed.bits7 : waitsOk batch_summed.T7.2 batch_summed.B7 = true := by kernel_rfl
def batch_summed.T9 : Bool × List (List Nat × List Nat) := (true, [([], []), ([0], [0]), ([], []), ([], []), ([2, 3], [2, 3]), ([4], [4]), ([5], [5]), ([1, 6], [1, 6]), ([0, 1, 2, 3, 4, 5, 6, 7], []), ([8, 7, 0, 1, 2, 3, 4, 5, 6, 7], [7, 8])])
def batch_summed.B9 : List Nat := [0, 1, 0, 0, 12, 28, 60, 127, 255, 511]
theorem batch_summed.tab9 : rtab .any (opsOf Try.f49 9) = batch_summed.T9 := by kernel_rfl
theorem batch_summed.bits9 : waitsOk batch_summed.T9.2 batch_summed.B9 = true := by kernel_rfl
set_option maxHeartbeats 8000000 in
set_option maxRecDepth 100000 in
theorem batch_summed.calls (k : Nat) (P0_ : Nat → Prop) (u9000_ : Value) (l0 : List (S50)) (r1 : List (S50)) (r2 : Int) (r3 : List (S50)) (w0 w : World) (hB : Below w0.heap.size w0 w) (ho0 : Kd.R k50 50 w w0.heap.size P0_ u9000_ l0) (h : batch_summed.f k l0 = some (r1, r2, r3)) :
  Calls Try.prog 49 #[u9000_] w fun e w' => ∃ v0_ : Value, e = .returned (.tuple #[v0_, .int .i64 r2]) ∧ Kd.R k50 50 w' w0.heap.size (fun k_ => (P0_ k_ ∨ w.heap.size ≤ k_) ∧ some k_ ≠ (u9000_ : Value).ownBlock) v0_ r1 ∧ Kd.R k50 50 w' w0.heap.size (fun k_ => (P0_ k_ ∨ w.heap.size ≤ k_)) u9000_ r3 ∧ Below w0.heap.size w0 w' ∧ Kept w w' (fun k_ => P0_ k_) := by
 have hu50 := Try.underlying50
 have HO0 := Aside0.mk (show Kd.R k50 50 w w0.heap.size (fun k_ => (P0_ k_ ∨ w.heap.size ≤ k_)) u9000_ l0 from Kd.R_mono ho0 (fun k_ hk => (.inl hk)))
 have HK := Aside0.mk (Kept.refl w (fun k_ => P0_ k_))
 have HW0 := Aside0.mk hB.size
 have HB := Aside0.mk hB
 clear hB
 have H : ((batch_Change_74.f k l0).bind fun t162 => (batch_summed.l0 k t162 ([] : List (S50)) 0)) = some (r1, r2, r3) := h
 clear h
 replace H := Option.bind_eq_some_iff.mp H
 obtain ⟨t162, A20, H⟩ := H
 replace H : (batch_summed.l0 k t162 ([] : List (S50)) 0) = some (r1, r2, r3) := H
 have A2 := Aside0.mk A20
 clear A20
 have H' := Aside0.mk H
 clear H
 obtain ⟨Ao3, co3, eo3⟩ := Kd.R_slice HO0.out
 subst eo3
 go_enter Try.func49, Try.ntmps49
 go_wp2_with (first | ((with_reducible refine gate_callee (f := 74) rfl ?_); refine gl (some 8) Try.func74 #[.slice Ao3 l0.length co3, .func (.func 53) #[] #[]] ?_; (with_reducible refine (batch_Change_74.calls k (fun k_ => some k_ = (.slice Ao3 l0.length co3 : Value).ownBlock) (.slice Ao3 l0.length co3) l0  t162 w0 _ ?side1 ?side2 A2.out).mono ?_); (case side1 => repeat (first | (with_reducible first | exact HB.out | apply below_alloc | apply pw_below_drewN | apply below_drew1) | exact HB.out)); (case side2 => exact Kd.R_tight rfl HO0.out); rintro e w4 ⟨rfl, hy0, hb, hkp⟩; refine ⟨_, rfl, ?_⟩; have n0_ := Aside0.mk (Kd.R_reok rfl hy0 (fun k_ e_ => HO0.out.1 k_ e_)); have n1_ := Aside0.mk (Kept.then_ (S := (fun k_ => P0_ k_)) (by repeat (first | (with_reducible first | exact HK.out | apply Kept.alloc | apply Kept.drewN | apply Kept.drew) | exact HK.out)) hkp (fun k_ hs_ => (fun e_ => (HO0.out.1 k_ e_.symm)) hs_)); have n2_ := Aside0.mk (hb); clear HO0; clear HK; clear HB; have HO0 := n0_; have HK := n1_; have HB := n2_; clear n0_ n1_ n2_; (try clear hb); (try clear hkp); (try clear hy0)))
 go_loopg [4, 5] k (fun kq v4 v5 w' => ∃ (x4_1 : List (S50)) (x5_1 : Int), v5 = .int .i64 x5_1 ∧ Aside0 (batch_summed.l0 kq t162 x4_1 x5_1 = some (r1, r2, r3)) ∧ Aside0 (kq ≤ k) ∧ Aside0 (Kd.R k50 50 w' w0.heap.size (fun k_ => (P0_ k_ ∨ w.heap.size ≤ k_) ∧ some k_ ≠ (v4 : Value).ownBlock) (.slice Ao3 l0.length co3) t162) ∧ Aside0 (Kd.R k50 50 w' w0.heap.size (fun k_ => (P0_ k_ ∨ w.heap.size ≤ k_) ∧ some k_ ≠ ((.slice Ao3 l0.length co3) : Value).ownBlock) v4 x4_1) ∧ Aside0 (Kept w w' (fun k_ => P0_ k_)) ∧ Aside0 (Below w0.heap.size w0 w'))
 case atStart => exact ⟨(([] : List (S50))), (0), (by first | rfl | (simp; done) | (simp [*]; done)), H', ⟨Nat.le_refl _⟩, ⟨by (with_reducible repeat (first | apply Kd.R_alloc | apply Kd.R_drewN | apply Kd.R_drew)); exact Kd.R_mono HO0.out (fun _ hk => ⟨hk, (by simp [Value.ownBlock])⟩)⟩, ⟨by first | exact Kd.R_nil _ _ _ _ _ | exact Kd.N_nil _ _ _ _ _ | exact Kd.V_nil _ _ _ _ _ | exact Kd.Q_nil _ _ _ _ _ | exact Kd.S_nil _ _ _ _ _⟩, ⟨by repeat (first | (with_reducible first | exact HK.out | apply Kept.alloc | apply Kept.drewN | apply Kept.drew) | exact HK.out)⟩, ⟨by repeat (first | (with_reducible first | exact HB.out | apply below_alloc | apply pw_below_drewN | apply below_drew1) | exact HB.out)⟩⟩
 case round =>
  clear H'
  (try clear p2); (try clear c4)
  obtain ⟨x4_1, x5_1, rfl, HA, HK1, HO_0, HO_4, HK, HB⟩ := hrel
  have hl0_1 := (Kd.R_reads' HO_0.out).1
  rw [hl0_1] at HO_0
  (try simp only [hl0_1])
  (try simp only [hl0_1] at HO_4)
  cases gk with
  | zero => exact absurd HA.out (by simp [batch_summed.l0])
  | succ k1 =>
   have H := HA.out
   clear HA
   simp only [batch_summed.l0] at H
   by_cases c5 : x5_1 < (t162.length : Int)
   ·rw [if_pos c5] at H
    have c5b0 : decide (x5_1 < (t162.length : Int)) = true := decide_eq_true c5
    clear c5
    by_cases c6 : 0 ≤ x5_1
    ·rw [if_pos c6] at H
     have c6b0 : decide (0 ≤ x5_1) = true := decide_eq_true c6
     clear c6
     have HC7 := Aside0.mk H
     clear H
     have p163 : 0 ≤ (x5_1 : Int) := of_decide_eq_true (by assumption)
     have q163 : x5_1 < (t162.length : Int) := of_decide_eq_true (by assumption)
     obtain ⟨ad163, e163, hx163_0, hx163_1, hx163_2⟩ := at_T50 (Kd.R_reads' HO_0.out).2.2 x5_1 p163 q163
     cases e163
     replace p163 := eq_true p163
     replace q163 := eq_true q163
     go_upto_block 2 with (first | ((with_reducible refine gate_dst (N := 6) rfl ?_); refine box_event ?hg (N := 6) ?hd (cs := #[.int .i64 0, .int .u64 0, .int .i64 0]) (t := 50) ?hr ?_; (case hd => rfl); (case hg => rfl); (case hr => first | (go_simp; done) | (go_simp; rfl)); intro gb164 hg w8 hbox hb; have n0_ := Aside0.mk (Kd.R_below (Kd.R_elderB (rn HO_0) gb164 (Nat.le_of_eq hg.symm)) hb); have n1_ := Aside0.mk (Kd.R_below (Kd.R_elderB (rn HO_4) gb164 (Nat.le_of_eq hg.symm)) hb); have n2_ := Aside0.mk (Kept.below (S := (fun k_ => P0_ k_)) (by repeat (first | (with_reducible first | exact HK.out | apply Kept.alloc | apply Kept.drewN | apply Kept.drew) | exact HK.out)) hb); have n4_ := Aside0.mk (hbox); have n5_ := Aside0.mk ((by rw [hg]; exact (by first | exact HK.out.1 | exact (show Kept w _ (fun k_ => P0_ k_) from by repeat (first | (with_reducible first | exact HK.out | apply Kept.alloc | apply Kept.drewN | apply Kept.drew) | exact HK.out)).1) : w.heap.size ≤ gb164)); have n6_ := Aside0.mk ((by rw [hg]; exact (below_size (bn HB)) : w0.heap.size ≤ gb164)); clear HO_0; clear HO_4; clear HK; have HO_0 := n0_; have HO_4 := n1_; have HK := n2_; replace HB := bb HB hb; have BK164 := n4_; have GW164 := n5_; have GE164 := n6_; clear n0_ n1_ n2_ n4_ n5_ n6_; clear hb hbox hg; have hcz9_0 : w8.cell? ⟨gb164, 0, none⟩ = some (.int .i64 0) := (blk_cell BK164.out 0).trans rfl; have hcz9_1 : w8.cell? ⟨gb164, 1, none⟩ = some (.int .u64 0) := (blk_cell BK164.out 1).trans rfl; have hcz9_2 : w8.cell? ⟨gb164, 2, none⟩ = some (.int .i64 0) := (blk_cell BK164.out 2).trans rfl; have hfz9_0 := blk_frozen BK164.out 0; have hfz9_1 := blk_frozen BK164.out 1; have hfz9_2 := blk_frozen BK164.out 2))
     (try simp only [Act.put, List.setIfInBounds_toArray, List.set_cons_zero, List.set_cons_succ])
     go_cut [5] (fun v5 wc => ∃ (kq : Nat) (x5_6 : Int) (x165002_6 : Int), v5 = .int .i64 x5_6 ∧ Aside0 (batch_summed.j2 kq t162 x4_1 x5_6 ((rd_T50 t162 x5_1).f0) ((rd_T50 t162 x5_1).f1) x165002_6 = some (r1, r2, r3)) ∧ Aside0 (kq ≤ k1) ∧ Aside0 (Kd.R k50 50 wc w0.heap.size (fun k_ => (P0_ k_ ∨ w.heap.size ≤ k_) ∧ some k_ ≠ (u4 : Value).ownBlock ∧ k_ ≠ gb164) (.slice (some ad163) t162.length co3) t162) ∧ Aside0 (Kd.R k50 50 wc w0.heap.size (fun k_ => (P0_ k_ ∨ w.heap.size ≤ k_) ∧ some k_ ≠ ((.slice (some ad163) t162.length co3) : Value).ownBlock ∧ k_ ≠ gb164) u4 x4_1) ∧ Aside0 (wc.heap[gb164]? = some (.cells #[.int .i64 ((rd_T50 t162 x5_1).f0), .int .u64 ((rd_T50 t162 x5_1).f1), .int .i64 x165002_6] 50 (0, 0))) ∧ Aside0 (Kept w wc (fun k_ => P0_ k_)) ∧ Aside0 (Below w0.heap.size w0 wc))
     case first =>
      have H := HC7.out
      clear HC7
      have H' := Aside0.mk H
      clear H
      go_wp2
      go_loopg [5] k1 (fun kq v5 w' => ∃ (x5_2 : Int) (x165002_2 : Int), v5 = .int .i64 x5_2 ∧ Aside0 (batch_summed.l1 kq t162 x4_1 x5_2 ((rd_T50 t162 x5_1).f0) ((rd_T50 t162 x5_1).f1) x165002_2 = some (r1, r2, r3)) ∧ Aside0 (kq ≤ k1) ∧ Aside0 (Kd.R k50 50 w' w0.heap.size (fun k_ => (P0_ k_ ∨ w.heap.size ≤ k_) ∧ some k_ ≠ (u4 : Value).ownBlock ∧ k_ ≠ gb164) (.slice (some ad163) t162.length co3) t162) ∧ Aside0 (Kd.R k50 50 w' w0.heap.size (fun k_ => (P0_ k_ ∨ w.heap.size ≤ k_) ∧ some k_ ≠ ((.slice (some ad163) t162.length co3) : Value).ownBlock ∧ k_ ≠ gb164) u4 x4_1) ∧ Aside0 (w'.heap[gb164]? = some (.cells #[.int .i64 ((rd_T50 t162 x5_1).f0), .int .u64 ((rd_T50 t162 x5_1).f1), .int .i64 x165002_2] 50 (0, 0))) ∧ Aside0 (Kept w w' (fun k_ => P0_ k_)) ∧ Aside0 (Below w0.heap.size w0 w'))
      case atStart => exact ⟨(wrap64 (x5_1 + 1)), ((rd_T50 t162 x5_1).f2), (by first | rfl | (simp; done) | (simp [*]; done)), H', ⟨Nat.le_refl _⟩, ⟨by (try simp only [hl0_1]); (with_reducible repeat (first | apply Kd.R_alloc | apply Kd.R_drewN | apply Kd.R_drew)); exact Kd.R_mono (Kd.R_far (p := ⟨gb164, 2, none⟩) (Kd.R_far (p := ⟨gb164, 1, none⟩) (Kd.R_far (p := ⟨gb164, 0, none⟩) (Kd.R_mono HO_0.out (fun k_ hk => (⟨hk, hk.2⟩ : _ ∧ k_ ≠ gb164))) (fun _ hk => hk.2) (.int .i64 ((rd_T50 t162 x5_1).f0))) (fun _ hk => hk.2) (.int .u64 ((rd_T50 t162 x5_1).f1))) (fun _ hk => hk.2) (.int .i64 ((rd_T50 t162 x5_1).f2))) (fun _ hk => ⟨hk.1.1.1, ⟨hk.1.1.2, hk.1.2⟩⟩)⟩, ⟨by (try simp only [hl0_1]); (with_reducible repeat (first | apply Kd.R_alloc | apply Kd.R_drewN | apply Kd.R_drew)); exact Kd.R_mono (Kd.R_far (p := ⟨gb164, 2, none⟩) (Kd.R_far (p := ⟨gb164, 1, none⟩) (Kd.R_far (p := ⟨gb164, 0, none⟩) (Kd.R_mono HO_4.out (fun k_ hk => (⟨hk, hk.2⟩ : _ ∧ k_ ≠ gb164))) (fun _ hk => hk.2) (.int .i64 ((rd_T50 t162 x5_1).f0))) (fun _ hk => hk.2) (.int .u64 ((rd_T50 t162 x5_1).f1))) (fun _ hk => hk.2) (.int .i64 ((rd_T50 t162 x5_1).f2))) (fun _ hk => ⟨hk.1.1.1, ⟨hk.1.1.2, hk.1.2⟩⟩)⟩, ⟨by (try simp only [hl0_1]); (with_reducible repeat (first | refine blk_drewN ?_ _ | refine blk_drew ?_ | refine blk_alloc ?_ _)); refine blk_put (cs := #[.int .i64 ((rd_T50 t162 x5_1).f0), .int .u64 ((rd_T50 t162 x5_1).f1), .int .i64 0]) ?_ 2 _ rfl; (with_reducible repeat (first | refine blk_drewN ?_ _ | refine blk_drew ?_ | refine blk_alloc ?_ _)); refine blk_put (cs := #[.int .i64 ((rd_T50 t162 x5_1).f0), .int .u64 0, .int .i64 0]) ?_ 1 _ rfl; (with_reducible repeat (first | refine blk_drewN ?_ _ | refine blk_drew ?_ | refine blk_alloc ?_ _)); refine blk_put (cs := #[.int .i64 0, .int .u64 0, .int .i64 0]) ?_ 0 _ rfl; (with_reducible repeat (first | refine blk_drewN ?_ _ | refine blk_drew ?_ | refine blk_alloc ?_ _)); exact BK164.out⟩, ⟨by repeat (first | (with_reducible first | exact HK.out | apply Kept.alloc | apply Kept.drewN | apply Kept.drew | refine Kept.setCell ?_ (.inr GW164.out) _) | exact HK.out)⟩, ⟨by repeat (first | (with_reducible first | exact HB.out | apply below_alloc | apply pw_below_drewN | apply below_drew1 | refine below_set ?_ GE164.out) | exact HB.out)⟩⟩
      case round =>
       clear H'
       (try clear p1); (try clear q1); (try clear hx1); (try clear p2); (try clear c4); (try clear c5); (try clear c5b0); (try clear c6); (try clear c6b0); (try clear p6); (try clear c7); (try clear hcz9_0); (try clear hcz9_1); (try clear hcz9_2); (try clear hfz9_0); (try clear hfz9_1); (try clear hfz9_2)
       (try clear hx163_0); (try clear hx163_1); (try clear hx163_2); (try clear p163); (try clear p2); (try clear q163)
       obtain ⟨x5_2, x165002_2, rfl, HA, HK2, HO_0, HO_4, BK164, HK, HB⟩ := hrel
       cases gk with
       | zero => exact absurd HA.out (by simp [batch_summed.l1])
       | succ k2 =>
        have H := HA.out
        clear HA
        simp only [batch_summed.l1] at H
        by_cases c10 : x5_2 < (t162.length : Int)
        ·rw [if_pos c10] at H
         have c10b0 : decide (x5_2 < (t162.length : Int)) = true := decide_eq_true c10
         clear c10
         (first | rw [c10b0] | (simp only [i64_w, i32_w]; rw [c10b0]) | skip)
         by_cases c11 : 0 ≤ x5_2
         ·rw [if_pos c11] at H
          have c11b0 : decide (0 ≤ x5_2) = true := decide_eq_true c11
          clear c11
          replace H := Option.bind_eq_some_iff.mp H
          obtain ⟨t166, A120, H⟩ := H
          replace H : (if t166 = 0 then (batch_summed.l1 k2 t162 x4_1 (wrap64 (x5_2 + 1)) ((rd_T50 t162 x5_1).f0) ((rd_T50 t162 x5_1).f1) (wrap64 (x165002_2 + ((rd_T50 t162 x5_2).f2)))) else (batch_summed.j2 k2 t162 x4_1 x5_2 ((rd_T50 t162 x5_1).f0) ((rd_T50 t162 x5_1).f1) x165002_2)) = some (r1, r2, r3) := H
          have A12 := Aside0.mk A120
          clear A120
          by_cases c13 : t166 = 0
          ·rw [if_pos c13] at H
           have c13b0 : (t166 == 0) = true := beq_iff_eq.mpr c13
           have c13b1 : (t166 != 0) = false := bne_eq_false_iff_eq.mpr c13
           clear c13
           have H' := Aside0.mk H
           clear H
           try go_wp2
           have n0_ := Aside0.mk (Kd.R_drew HO_0.out)
           have n1_ := Aside0.mk (Kd.R_drew HO_4.out)
           have n2_ := Aside0.mk (blk_drew BK164.out)
           have n3_ := Aside0.mk (Kept.drew HK.out)
           have n4_ := Aside0.mk (below_drew1 HB.out)
           clear HO_0
           clear HO_4
           clear BK164
           clear HK
           clear HB
           have HO_0 := n0_
           have HO_4 := n1_
           have BK164 := n2_
           have HK := n3_
           have HB := n4_
           clear n0_ n1_ n2_ n3_ n4_
           have p165 : 0 ≤ (x5_2 : Int) := of_decide_eq_true (by assumption)
           have q165 : x5_2 < (t162.length : Int) := of_decide_eq_true (by assumption)
           obtain ⟨ad165, e165, hx165_0, hx165_1, hx165_2⟩ := at_T50 (Kd.R_reads' HO_0.out).2.2 x5_2 p165 q165
           obtain rfl : ad163 = ad165 := (by injection e165)
           replace p165 := eq_true p165
           replace q165 := eq_true q165
           refine start_ (n := 13) (S := fun w' => w'.cell? ⟨gb164, 0, none⟩ = some (.int .i64 ((rd_T50 t162 x5_1).f0)) ∧ w'.cell? ⟨gb164, 1, none⟩ = some (.int .u64 ((rd_T50 t162 x5_1).f1)) ∧ w'.cell? ⟨gb164, 2, none⟩ = some (.int .i64 x165002_2) ∧ w'.cell? (ad163.add ((x5_2).toNat * 3)) = some (.int .i64 ((rd_T50 t162 x5_2).f0)) ∧ w'.cell? ⟨(ad163.add ((x5_2).toNat * 3)).block, (ad163.add ((x5_2).toNat * 3)).off + 1, none⟩ = some (.int .u64 ((rd_T50 t162 x5_2).f1)) ∧ w'.cell? ⟨(ad163.add ((x5_2).toNat * 3)).block, (ad163.add ((x5_2).toNat * 3)).off + 2, none⟩ = some (.int .i64 ((rd_T50 t162 x5_2).f2))) (ds := []) (mk_ 0 13) (by kernel_rfl) rfl rfl ⟨(blk_cell BK164.out 0).trans rfl, (blk_cell BK164.out 1).trans rfl, (blk_cell BK164.out 2).trans rfl, hx165_0, hx165_1, hx165_2⟩ (fun hHeld => ?_); refine with_tabW batch_summed.tab7 batch_summed.bits7 (fun HT_ HW_ => ?_)
           generalize wr.drew = w14 at HO_0 HO_4 BK164 HK HB hx165_0 hx165_1 hx165_2 hHeld ⊢
           refine pv_ 0 19 (mk_ 1 12) HT_ ?_
           refine pv_ 1 20 (mk_ 2 11) HT_ ?_
           refine pv_ 2 21 (mk_ 3 10) HT_ ?_
           refine pv_ 3 22 (mk_ 4 9) HT_ ?_
           refine pv_ 4 23 (mk_ 5 8) HT_ ?_
           refine pv_ 5 24 (mk_ 6 7) HT_ ?_
           refine pv_ 6 25 (mk_ 7 6) HT_ ?_
           refine pv_ 7 26 (mk_ 8 5) HT_ ?_
           refine tv_ 8 27 (mk_ 9 4) HT_ HW_ hHeld (hy := by rintro w' ⟨s0, s1, s2, s3, s4, s5⟩; go_simp; with_reducible rfl) (h := ?_)
           refine tv_ 9 28 (mk_ 10 3) HT_ HW_ hHeld (hy := by rintro w' ⟨s0, s1, s2, s3, s4, s5⟩; go_simp; with_reducible rfl) (h := ?_)
           refine one_ (i := 10) (N := some 29) (mk_ 11 2) rfl rfl (one_of HT_.out (by kernel_rfl)) (by decide) (fun K hK => ?_)
           refine goes_ Try.func53 (by kernel_rfl) rfl #[.agg #[.int .i64 ((rd_T50 t162 x5_2).f0), .int .u64 ((rd_T50 t162 x5_2).f1), .int .i64 ((rd_T50 t162 x5_2).f2)], .agg #[.int .i64 ((rd_T50 t162 x5_1).f0), .int .u64 ((rd_T50 t162 x5_1).f1), .int .i64 x165002_2]] (by rfl) rfl rfl (by (try simp only [List.map_toArray, List.map_cons, List.map_nil]); first | done | rfl | (simp only [List.length_drop, List.length_take]; rfl)) ?_
           with_reducible refine (batch_order.calls k2 ((rd_T50 t162 x5_2).f0) ((rd_T50 t162 x5_2).f1) ((rd_T50 t162 x5_2).f2) ((rd_T50 t162 x5_1).f0) ((rd_T50 t162 x5_1).f1) x165002_2 t166 _ A12.out).mono ?_
           rintro e w15 ⟨rfl, hb⟩
           have HS3_ := (hb.cell (World.block_lt_of_cell? _ _ (hHeld.2.2.2.1))).trans (hHeld.2.2.2.1)
           have HS4_ := (hb.cell (World.block_lt_of_cell? _ _ (hHeld.2.2.2.2.1))).trans (hHeld.2.2.2.2.1)
           have HS5_ := (hb.cell (World.block_lt_of_cell? _ _ (hHeld.2.2.2.2.2))).trans (hHeld.2.2.2.2.2)
           refine ⟨_, rfl, ?_⟩
           have n0_ := Aside0.mk (Kd.R_below (rn HO_0) hb)
           have n1_ := Aside0.mk (Kd.R_below (rn HO_4) hb)
           have n2_ := Aside0.mk (blk_below (g := gb164) (o := .cells #[.int .i64 ((rd_T50 t162 x5_1).f0), .int .u64 ((rd_T50 t162 x5_1).f1), .int .i64 x165002_2] 50 (0, 0)) (by (with_reducible repeat (first | refine blk_drewN ?_ _ | refine blk_drew ?_ | refine blk_alloc ?_ _)); exact BK164.out) hb)
           have n3_ := Aside0.mk (Kept.below (S := (fun k_ => P0_ k_)) (by repeat (first | (with_reducible first | exact HK.out | apply Kept.alloc | apply Kept.drewN | apply Kept.drew | refine Kept.setCell ?_ (.inr GW164.out) _) | exact HK.out)) hb)
           have n4_ := Aside0.mk (below_step (by repeat (first | (with_reducible first | exact HB.out | apply below_alloc | apply pw_below_drewN | apply below_drew1 | refine below_set ?_ GE164.out) | exact HB.out)) hb)
           clear HO_0
           clear HO_4
           clear BK164
           clear HK
           clear HB
           have HO_0 := n0_
           have HO_4 := n1_
           have BK164 := n2_
           have HK := n3_
           have HB := n4_
           clear n0_ n1_ n2_ n3_ n4_
           (try clear hb)
           (try clear hb2)
           (try clear hk)
           (try clear hi)
           refine hK.out _ _ ⟨(blk_cell BK164.out 0).trans rfl, (blk_cell BK164.out 1).trans rfl, (blk_cell BK164.out 2).trans rfl, HS3_, HS4_, HS5_⟩ (fun hHeld => ?_)
           clear hK K
           refine norm_ (a' := ?_) ?_ ?_
           rotate_left
           ·show Act.put _ (some 29) _ = _
            simp only [Act.put, List.setIfInBounds_toArray, List.set_cons_zero, List.set_cons_succ, i64_w, i32_w]
            rfl
           refine pv_ 11 30 (mk_ 12 1) HT_ ?_
           refine pv_ 12 31 (mk_ 13 0) HT_ ?_
           refine done_ (done_of HT_.out (by kernel_rfl)) ?_
           try go_wp2
           have n0_ := Aside0.mk (Kd.R_drew HO_0.out)
           have n1_ := Aside0.mk (Kd.R_drew HO_4.out)
           have n2_ := Aside0.mk (blk_drew BK164.out)
           have n3_ := Aside0.mk (Kept.drew HK.out)
           have n4_ := Aside0.mk (below_drew1 HB.out)
           clear HO_0
           clear HO_4
           clear BK164
           clear HK
           clear HB
           have HO_0 := n0_
           have HO_4 := n1_
           have BK164 := n2_
           have HK := n3_
           have HB := n4_
           clear n0_ n1_ n2_ n3_ n4_
           have p167 : 0 ≤ (x5_2 : Int) := of_decide_eq_true (by assumption)
           have q167 : x5_2 < (t162.length : Int) := of_decide_eq_true (by assumption)
           obtain ⟨ad167, e167, hx167_0, hx167_1, hx167_2⟩ := at_T50 (Kd.R_reads' HO_0.out).2.2 x5_2 p167 q167
           obtain rfl : ad163 = ad167 := (by injection e167)
           replace p167 := eq_true p167
           replace q167 := eq_true q167
           refine start_ (n := 10) (S := fun w' => w'.cell? ⟨gb164, 0, none⟩ = some (.int .i64 ((rd_T50 t162 x5_1).f0)) ∧ w'.cell? ⟨gb164, 1, none⟩ = some (.int .u64 ((rd_T50 t162 x5_1).f1)) ∧ w'.cell? ⟨gb164, 2, none⟩ = some (.int .i64 x165002_2) ∧ w'.cell? (ad163.add ((x5_2).toNat * 3)) = some (.int .i64 ((rd_T50 t162 x5_2).f0)) ∧ w'.cell? ⟨(ad163.add ((x5_2).toNat * 3)).block, (ad163.add ((x5_2).toNat * 3)).off + 1, none⟩ = some (.int .u64 ((rd_T50 t162 x5_2).f1)) ∧ w'.cell? ⟨(ad163.add ((x5_2).toNat * 3)).block, (ad163.add ((x5_2).toNat * 3)).off + 2, none⟩ = some (.int .i64 ((rd_T50 t162 x5_2).f2))) (ds := [9]) (mk_ 0 10) (by kernel_rfl) rfl rfl ⟨(blk_cell BK164.out 0).trans rfl, (blk_cell BK164.out 1).trans rfl, (blk_cell BK164.out 2).trans rfl, hx167_0, hx167_1, hx167_2⟩ (fun hHeld => ?_); refine with_tabW batch_summed.tab9 batch_summed.bits9 (fun HT_ HW_ => ?_)
           generalize w15.drew = w16 at HO_0 HO_4 BK164 HK HB hx167_0 hx167_1 hx167_2 hHeld ⊢
           refine pv_ 0 34 (mk_ 1 9) HT_ ?_
           refine pv_ 2 36 #[true, false, true, false, false, false, false, false, false, false] HT_ ?_
           refine pv_ 3 37 #[true, false, true, true, false, false, false, false, false, false] HT_ ?_
           refine pv_ 4 38 #[true, false, true, true, true, false, false, false, false, false] HT_ ?_
           refine pv_ 5 39 #[true, false, true, true, true, true, false, false, false, false] HT_ ?_
           refine tv_ 1 35 (mk_ 6 4) HT_ HW_ hHeld (hy := by rintro w' ⟨s0, s1, s2, s3, s4, s5⟩; go_simp; with_reducible rfl) (h := ?_)
           refine tv_ 6 40 (mk_ 7 3) HT_ HW_ hHeld (hy := by rintro w' ⟨s0, s1, s2, s3, s4, s5⟩; go_simp; with_reducible rfl) (h := ?_)
           refine pv_ 7 41 (mk_ 8 2) HT_ ?_
           refine pv_ 8 42 (mk_ 9 1) HT_ ?_
           refine last_ (i := 9) (N := none) (mk_ 10 0) rfl rfl (one_of HT_.out (by kernel_rfl)) (by decide) (fun K hK => ?_)
           have hs17 : w16.cell? ⟨gb164, 2, none⟩ = some (.int .i64 x165002_2) := (blk_cell BK164.out 2).trans rfl
           have hfs17 := blk_frozen BK164.out 2
           refine skip_ (w1 := ?_) (by rfl) rfl ?_ ?_
           rotate_left
           ·go_simp
            rfl
           refine hK.out _ _ ?_
           clear hK K
           refine done_ (done_of HT_.out (by kernel_rfl)) ?_
           try go_wp2
           go_roundg k2
           case measure => have := HK1.out; have := HK2.out; omega
           case rel => exact ⟨(wrap64 (x5_2 + 1)), (wrap64 (x165002_2 + ((rd_T50 t162 x5_2).f2))), (by first | rfl | (simp; done) | (simp [*]; done)), H', ⟨by have := HK1.out; have := HK2.out; omega⟩, ⟨by (try simp only [hl0_1]); (with_reducible repeat (first | apply Kd.R_alloc | apply Kd.R_drewN | apply Kd.R_drew)); exact Kd.R_mono (Kd.R_far (p := ⟨gb164, 2, none⟩) (Kd.R_mono HO_0.out (fun k_ hk => (⟨hk, hk.2.2⟩ : _ ∧ k_ ≠ gb164))) (fun _ hk => hk.2) (.int .i64 (wrap64 (x165002_2 + ((rd_T50 t162 x5_2).f2))))) (fun _ hk => ⟨hk.1.1, ⟨hk.1.2.1, hk.1.2.2⟩⟩)⟩, ⟨by (try simp only [hl0_1]); (with_reducible repeat (first | apply Kd.R_alloc | apply Kd.R_drewN | apply Kd.R_drew)); exact Kd.R_mono (Kd.R_far (p := ⟨gb164, 2, none⟩) (Kd.R_mono HO_4.out (fun k_ hk => (⟨hk, hk.2.2⟩ : _ ∧ k_ ≠ gb164))) (fun _ hk => hk.2) (.int .i64 (wrap64 (x165002_2 + ((rd_T50 t162 x5_2).f2))))) (fun _ hk => ⟨hk.1.1, ⟨hk.1.2.1, hk.1.2.2⟩⟩)⟩, ⟨by (try simp only [hl0_1]); (with_reducible repeat (first | refine blk_drewN ?_ _ | refine blk_drew ?_ | refine blk_alloc ?_ _)); refine blk_put (cs := #[.int .i64 ((rd_T50 t162 x5_1).f0), .int .u64 ((rd_T50 t162 x5_1).f1), .int .i64 x165002_2]) ?_ 2 _ rfl; (with_reducible repeat (first | refine blk_drewN ?_ _ | refine blk_drew ?_ | refine blk_alloc ?_ _)); exact BK164.out⟩, ⟨by repeat (first | (with_reducible first | exact HK.out | apply Kept.alloc | apply Kept.drewN | apply Kept.drew | refine Kept.setCell ?_ (.inr GW164.out) _) | exact HK.out)⟩, ⟨by repeat (first | (with_reducible first | exact HB.out | apply below_alloc | apply pw_below_drewN | apply below_drew1 | refine below_set ?_ GE164.out) | exact HB.out)⟩⟩
          ·rw [if_neg c13] at H
           have c13b0 : (t166 == 0) = false := beq_eq_false_iff_ne.mpr c13
           have c13b1 : (t166 != 0) = true := bne_iff_ne.mpr c13
           have H' := Aside0.mk H
           clear H
           try go_wp2
           have n0_ := Aside0.mk (Kd.R_drew HO_0.out)
           have n1_ := Aside0.mk (Kd.R_drew HO_4.out)
           have n2_ := Aside0.mk (blk_drew BK164.out)
           have n3_ := Aside0.mk (Kept.drew HK.out)
           have n4_ := Aside0.mk (below_drew1 HB.out)
           clear HO_0
           clear HO_4
           clear BK164
           clear HK
           clear HB
           have HO_0 := n0_
           have HO_4 := n1_
           have BK164 := n2_
           have HK := n3_
           have HB := n4_
           clear n0_ n1_ n2_ n3_ n4_
           have p165 : 0 ≤ (x5_2 : Int) := of_decide_eq_true (by assumption)
           have q165 : x5_2 < (t162.length : Int) := of_decide_eq_true (by assumption)
           obtain ⟨ad165, e165, hx165_0, hx165_1, hx165_2⟩ := at_T50 (Kd.R_reads' HO_0.out).2.2 x5_2 p165 q165
           obtain rfl : ad163 = ad165 := (by injection e165)
           replace p165 := eq_true p165
           replace q165 := eq_true q165
           refine start_ (n := 13) (S := fun w' => w'.cell? ⟨gb164, 0, none⟩ = some (.int .i64 ((rd_T50 t162 x5_1).f0)) ∧ w'.cell? ⟨gb164, 1, none⟩ = some (.int .u64 ((rd_T50 t162 x5_1).f1)) ∧ w'.cell? ⟨gb164, 2, none⟩ = some (.int .i64 x165002_2) ∧ w'.cell? (ad163.add ((x5_2).toNat * 3)) = some (.int .i64 ((rd_T50 t162 x5_2).f0)) ∧ w'.cell? ⟨(ad163.add ((x5_2).toNat * 3)).block, (ad163.add ((x5_2).toNat * 3)).off + 1, none⟩ = some (.int .u64 ((rd_T50 t162 x5_2).f1)) ∧ w'.cell? ⟨(ad163.add ((x5_2).toNat * 3)).block, (ad163.add ((x5_2).toNat * 3)).off + 2, none⟩ = some (.int .i64 ((rd_T50 t162 x5_2).f2))) (ds := []) (mk_ 0 13) (by kernel_rfl) rfl rfl ⟨(blk_cell BK164.out 0).trans rfl, (blk_cell BK164.out 1).trans rfl, (blk_cell BK164.out 2).trans rfl, hx165_0, hx165_1, hx165_2⟩ (fun hHeld => ?_); refine with_tabW batch_summed.tab7 batch_summed.bits7 (fun HT_ HW_ => ?_)
           generalize wr.drew = w18 at HO_0 HO_4 BK164 HK HB hx165_0 hx165_1 hx165_2 hHeld ⊢
           refine pv_ 0 19 (mk_ 1 12) HT_ ?_
           refine pv_ 1 20 (mk_ 2 11) HT_ ?_
           refine pv_ 2 21 (mk_ 3 10) HT_ ?_
           refine pv_ 3 22 (mk_ 4 9) HT_ ?_
           refine pv_ 4 23 (mk_ 5 8) HT_ ?_
           refine pv_ 5 24 (mk_ 6 7) HT_ ?_
           refine pv_ 6 25 (mk_ 7 6) HT_ ?_
           refine pv_ 7 26 (mk_ 8 5) HT_ ?_
           refine tv_ 8 27 (mk_ 9 4) HT_ HW_ hHeld (hy := by rintro w' ⟨s0, s1, s2, s3, s4, s5⟩; go_simp; with_reducible rfl) (h := ?_)
           refine tv_ 9 28 (mk_ 10 3) HT_ HW_ hHeld (hy := by rintro w' ⟨s0, s1, s2, s3, s4, s5⟩; go_simp; with_reducible rfl) (h := ?_)
           refine one_ (i := 10) (N := some 29) (mk_ 11 2) rfl rfl (one_of HT_.out (by kernel_rfl)) (by decide) (fun K hK => ?_)
           refine goes_ Try.func53 (by kernel_rfl) rfl #[.agg #[.int .i64 ((rd_T50 t162 x5_2).f0), .int .u64 ((rd_T50 t162 x5_2).f1), .int .i64 ((rd_T50 t162 x5_2).f2)], .agg #[.int .i64 ((rd_T50 t162 x5_1).f0), .int .u64 ((rd_T50 t162 x5_1).f1), .int .i64 x165002_2]] (by rfl) rfl rfl (by (try simp only [List.map_toArray, List.map_cons, List.map_nil]); first | done | rfl | (simp only [List.length_drop, List.length_take]; rfl)) ?_
           with_reducible refine (batch_order.calls k2 ((rd_T50 t162 x5_2).f0) ((rd_T50 t162 x5_2).f1) ((rd_T50 t162 x5_2).f2) ((rd_T50 t162 x5_1).f0) ((rd_T50 t162 x5_1).f1) x165002_2 t166 _ A12.out).mono ?_
           rintro e w19 ⟨rfl, hb⟩
           have HS3_ := (hb.cell (World.block_lt_of_cell? _ _ (hHeld.2.2.2.1))).trans (hHeld.2.2.2.1)
           have HS4_ := (hb.cell (World.block_lt_of_cell? _ _ (hHeld.2.2.2.2.1))).trans (hHeld.2.2.2.2.1)
           have HS5_ := (hb.cell (World.block_lt_of_cell? _ _ (hHeld.2.2.2.2.2))).trans (hHeld.2.2.2.2.2)
           refine ⟨_, rfl, ?_⟩
           have n0_ := Aside0.mk (Kd.R_below (rn HO_0) hb)
           have n1_ := Aside0.mk (Kd.R_below (rn HO_4) hb)
           have n2_ := Aside0.mk (blk_below (g := gb164) (o := .cells #[.int .i64 ((rd_T50 t162 x5_1).f0), .int .u64 ((rd_T50 t162 x5_1).f1), .int .i64 x165002_2] 50 (0, 0)) (by (with_reducible repeat (first | refine blk_drewN ?_ _ | refine blk_drew ?_ | refine blk_alloc ?_ _)); exact BK164.out) hb)
           have n3_ := Aside0.mk (Kept.below (S := (fun k_ => P0_ k_)) (by repeat (first | (with_reducible first | exact HK.out | apply Kept.alloc | apply Kept.drewN | apply Kept.drew | refine Kept.setCell ?_ (.inr GW164.out) _) | exact HK.out)) hb)
           have n4_ := Aside0.mk (below_step (by repeat (first | (with_reducible first | exact HB.out | apply below_alloc | apply pw_below_drewN | apply below_drew1 | refine below_set ?_ GE164.out) | exact HB.out)) hb)
           clear HO_0
           clear HO_4
           clear BK164
           clear HK
           clear HB
           have HO_0 := n0_
           have HO_4 := n1_
           have BK164 := n2_
           have HK := n3_
           have HB := n4_
           clear n0_ n1_ n2_ n3_ n4_
           (try clear hb)
           (try clear hb2)
           (try clear hk)
           (try clear hi)
           refine hK.out _ _ ⟨(blk_cell BK164.out 0).trans rfl, (blk_cell BK164.out 1).trans rfl, (blk_cell BK164.out 2).trans rfl, HS3_, HS4_, HS5_⟩ (fun hHeld => ?_)
           clear hK K
           refine norm_ (a' := ?_) ?_ ?_
           rotate_left
           ·show Act.put _ (some 29) _ = _
            simp only [Act.put, List.setIfInBounds_toArray, List.set_cons_zero, List.set_cons_succ, i64_w, i32_w]
            rfl
           refine pv_ 11 30 (mk_ 12 1) HT_ ?_
           refine pv_ 12 31 (mk_ 13 0) HT_ ?_
           refine done_ (done_of HT_.out (by kernel_rfl)) ?_
           try go_wp2
           go_meet
           case rel => exact ⟨_, (x5_2), (x165002_2), (by first | rfl | (simp; done) | (simp [*]; done)), H', ⟨by have := HK1.out; have := HK2.out; first | omega | exact Nat.le_refl _⟩, ⟨by (try simp only [hl0_1]); (with_reducible repeat (first | apply Kd.R_alloc | apply Kd.R_drewN | apply Kd.R_drew)); exact HO_0.out⟩, ⟨by (try simp only [hl0_1]); (with_reducible repeat (first | apply Kd.R_alloc | apply Kd.R_drewN | apply Kd.R_drew)); exact HO_4.out⟩, ⟨by (try simp only [hl0_1]); (with_reducible repeat (first | refine blk_drewN ?_ _ | refine blk_drew ?_ | refine blk_alloc ?_ _)); exact BK164.out⟩, ⟨by repeat (first | (with_reducible first | exact HK.out | apply Kept.alloc | apply Kept.drewN | apply Kept.drew | refine Kept.setCell ?_ (.inr GW164.out) _) | exact HK.out)⟩, ⟨by repeat (first | (with_reducible first | exact HB.out | apply below_alloc | apply pw_below_drewN | apply below_drew1 | refine below_set ?_ GE164.out) | exact HB.out)⟩⟩
         ·rw [if_neg c11] at H
          exact absurd H (by simp)
        ·rw [if_neg c10] at H
         have c10b0 : decide (x5_2 < (t162.length : Int)) = false := decide_eq_false c10
         clear c10
         (first | rw [c10b0] | (simp only [i64_w, i32_w]; rw [c10b0]) | skip)
         have H' := Aside0.mk H
         clear H
         try go_wp2
         have n0_ := Aside0.mk (Kd.R_drew HO_0.out)
         have n1_ := Aside0.mk (Kd.R_drew HO_4.out)
         have n2_ := Aside0.mk (blk_drew BK164.out)
         have n3_ := Aside0.mk (Kept.drew HK.out)
         have n4_ := Aside0.mk (below_drew1 HB.out)
         clear HO_0
         clear HO_4
         clear BK164
         clear HK
         clear HB
         have HO_0 := n0_
         have HO_4 := n1_
         have BK164 := n2_
         have HK := n3_
         have HB := n4_
         clear n0_ n1_ n2_ n3_ n4_
         refine start_ (n := 13) (S := fun w' => True) (ds := []) (mk_ 0 13) (by kernel_rfl) rfl rfl trivial (fun hHeld => ?_); refine with_tabW batch_summed.tab7 batch_summed.bits7 (fun HT_ HW_ => ?_)
         generalize wr.drew = w20 at HO_0 HO_4 BK164 HK HB hHeld ⊢
         refine pv_ 0 19 (mk_ 1 12) HT_ ?_
         refine pv_ 1 20 (mk_ 2 11) HT_ ?_
         refine pv_ 2 21 (mk_ 3 10) HT_ ?_
         refine pv_ 3 22 (mk_ 4 9) HT_ ?_
         refine pv_ 4 23 (mk_ 5 8) HT_ ?_
         refine pu_ 5 24 (mk_ 6 7) HT_ ?_
         refine pu_ 6 25 (mk_ 7 6) HT_ ?_
         refine pu_ 7 26 (mk_ 8 5) HT_ ?_
         refine pu_ 8 27 (mk_ 9 4) HT_ ?_
         refine pu_ 9 28 (mk_ 10 3) HT_ ?_
         refine pu_ 10 29 (mk_ 11 2) HT_ ?_
         refine pu_ 11 30 (mk_ 12 1) HT_ ?_
         refine pv_ 12 31 (mk_ 13 0) HT_ ?_
         refine done_ (done_of HT_.out (by kernel_rfl)) ?_
         try go_wp2
         go_meet
         case rel => exact ⟨_, (x5_2), (x165002_2), (by first | rfl | (simp; done) | (simp [*]; done)), H', ⟨by have := HK1.out; have := HK2.out; first | omega | exact Nat.le_refl _⟩, ⟨by (try simp only [hl0_1]); (with_reducible repeat (first | apply Kd.R_alloc | apply Kd.R_drewN | apply Kd.R_drew)); exact HO_0.out⟩, ⟨by (try simp only [hl0_1]); (with_reducible repeat (first | apply Kd.R_alloc | apply Kd.R_drewN | apply Kd.R_drew)); exact HO_4.out⟩, ⟨by (try simp only [hl0_1]); (with_reducible repeat (first | refine blk_drewN ?_ _ | refine blk_drew ?_ | refine blk_alloc ?_ _)); exact BK164.out⟩, ⟨by repeat (first | (with_reducible first | exact HK.out | apply Kept.alloc | apply Kept.drewN | apply Kept.drew | refine Kept.setCell ?_ (.inr GW164.out) _) | exact HK.out)⟩, ⟨by repeat (first | (with_reducible first | exact HB.out | apply below_alloc | apply pw_below_drewN | apply below_drew1 | refine below_set ?_ GE164.out) | exact HB.out)⟩⟩
     case rest =>
      clear HC7
      (try clear c1); (try clear p1); (try clear q1); (try clear hx1); (try clear p2); (try clear c4); (try clear c5); (try clear c5b0); (try clear c6); (try clear c6b0); (try clear p6); (try clear c7); (try clear c10); (try clear c10b0); (try clear c11); (try clear c11b0); (try clear c13); (try clear c13b0)
      (try clear c13b1); (try clear p16); (try clear q16); (try clear hx16); (try clear hcz9_0); (try clear hcz9_1); (try clear hcz9_2); (try clear hfz9_0); (try clear hfz9_1); (try clear hfz9_2); (try clear hx163_0); (try clear hx163_1); (try clear hx163_2); (try clear hx165_0); (try clear hx165_1)
      (try clear hx165_2); (try clear hx167_0); (try clear hx167_1); (try clear hx167_2); (try clear p1); (try clear p163); (try clear p165); (try clear p167); (try clear p2); (try clear p6); (try clear q1); (try clear q163); (try clear q165); (try clear q167)
      obtain ⟨kq, x5_6, x165002_6, rfl, HA, HJ6, HO_0, HO_4, BK164, HK, HB⟩ := hcut
      cases kq with
      | zero => exact absurd HA.out (by simp [batch_summed.j2])
      | succ kj6 =>
       have H := HA.out
       clear HA
       simp only [batch_summed.j2] at H
       replace H := Option.bind_eq_some_iff.mp H
       obtain ⟨t168, A210, H⟩ := H
       replace H : (if t168 = true then (if x165002_6 = 0 then (batch_summed.l0 kj6 t162 x4_1 x5_6) else (if x4_1.length < 5864062014805 then (batch_summed.l0 kj6 t162 (x4_1 ++ [(⟨((rd_T50 t162 x5_1).f0), ((rd_T50 t162 x5_1).f1), x165002_6⟩ : S50)]) x5_6) else (none))) else (some (([] : List (S50)), 10, t162))) = some (r1, r2, r3) := H
       have A21 := Aside0.mk A210
       clear A210
       by_cases c22 : t168 = true
       ·subst c22
        have H1 : (if x165002_6 = 0 then (batch_summed.l0 kj6 t162 x4_1 x5_6) else (if x4_1.length < 5864062014805 then (batch_summed.l0 kj6 t162 (x4_1 ++ [(⟨((rd_T50 t162 x5_1).f0), ((rd_T50 t162 x5_1).f1), x165002_6⟩ : S50)]) x5_6) else (none))) = some (r1, r2, r3) := by rw [if_pos rfl] at H; exact H
        clear H
        have H := H1
        clear H1
        by_cases c23 : x165002_6 = 0
        ·rw [if_pos c23] at H
         have c23b0 : (x165002_6 == 0) = true := beq_iff_eq.mpr c23
         have c23b1 : (x165002_6 != 0) = false := bne_eq_false_iff_eq.mpr c23
         clear c23
         have H' := Aside0.mk H
         clear H
         have hcz24_0 : wc.cell? ⟨gb164, 0, none⟩ = some (.int .i64 ((rd_T50 t162 x5_1).f0)) := (blk_cell BK164.out 0).trans rfl
         have hcz24_1 : wc.cell? ⟨gb164, 1, none⟩ = some (.int .u64 ((rd_T50 t162 x5_1).f1)) := (blk_cell BK164.out 1).trans rfl
         have hcz24_2 : wc.cell? ⟨gb164, 2, none⟩ = some (.int .i64 x165002_6) := (blk_cell BK164.out 2).trans rfl
         have hfz24_0 := blk_frozen BK164.out 0
         have hfz24_1 := blk_frozen BK164.out 1
         have hfz24_2 := blk_frozen BK164.out 2
         go_wp2_with (first | ((with_reducible refine gate_callee (f := 73) rfl ?_); refine gl (some 46) Try.func73 #[.int .i64 x165002_6] ?_; (with_reducible refine (batch_within.calls x165002_6 true _ A21.out).mono ?_); rintro e w' ⟨rfl, ⟨nd, rfl⟩⟩; refine ⟨_, rfl, ?_⟩))
         (try simp only [← hl0_1])
         go_roundg kj6
         case measure => have := HK1.out; have := HJ6.out; omega
         case rel => exact ⟨(x4_1), (x5_6), (by first | rfl | (simp; done) | (simp [*]; done)), H', ⟨by have := HK1.out; have := HJ6.out; omega⟩, ⟨by (try simp only [hl0_1]); (with_reducible repeat (first | apply Kd.R_alloc | apply Kd.R_drewN | apply Kd.R_drew)); exact Kd.R_mono HO_0.out (fun _ hk => ⟨hk.1, hk.2.1⟩)⟩, ⟨by (try simp only [hl0_1]); (with_reducible repeat (first | apply Kd.R_alloc | apply Kd.R_drewN | apply Kd.R_drew)); exact Kd.R_mono HO_4.out (fun _ hk => ⟨hk.1, hk.2.1⟩)⟩, ⟨by repeat (first | (with_reducible first | exact HK.out | apply Kept.alloc | apply Kept.drewN | apply Kept.drew | refine Kept.setCell ?_ (.inr GW164.out) _) | exact HK.out)⟩, ⟨by repeat (first | (with_reducible first | exact HB.out | apply below_alloc | apply pw_below_drewN | apply below_drew1 | refine below_set ?_ GE164.out) | exact HB.out)⟩⟩
        ·rw [if_neg c23] at H
         have c23b0 : (x165002_6 == 0) = false := beq_eq_false_iff_ne.mpr c23
         have c23b1 : (x165002_6 != 0) = true := bne_iff_ne.mpr c23
         by_cases c25 : x4_1.length < 5864062014805
         ·rw [if_pos c25] at H
          have LMc25 := Aside0.mk c25
          clear c25
          obtain ⟨y169, hy169⟩ : ∃ y_ : List (S50), y_ = (x4_1 ++ [(⟨((rd_T50 t162 x5_1).f0), ((rd_T50 t162 x5_1).f1), x165002_6⟩ : S50)]) := ⟨_, rfl⟩
          replace H : (batch_summed.l0 kj6 t162 y169 x5_6) = some (r1, r2, r3) := by first | (rw [hy169]; with_reducible exact H) | (have H2_ := (Option.bind_some _ _).symm.trans H; rw [hy169]; with_reducible exact H2_) | (have H2_ := (Option.bind_some _ _).symm.trans H; with_reducible exact H2_) | with_reducible exact H | (rw [hy169]; exact H) | exact H
          have Ny169 := Aside0.mk hy169
          clear hy169
          have H' := Aside0.mk H
          clear H
          have hcz26_0 : wc.cell? ⟨gb164, 0, none⟩ = some (.int .i64 ((rd_T50 t162 x5_1).f0)) := (blk_cell BK164.out 0).trans rfl
          have hcz26_1 : wc.cell? ⟨gb164, 1, none⟩ = some (.int .u64 ((rd_T50 t162 x5_1).f1)) := (blk_cell BK164.out 1).trans rfl
          have hcz26_2 : wc.cell? ⟨gb164, 2, none⟩ = some (.int .i64 x165002_6) := (blk_cell BK164.out 2).trans rfl
          have hfz26_0 := blk_frozen BK164.out 0
          have hfz26_1 := blk_frozen BK164.out 1
          have hfz26_2 := blk_frozen BK164.out 2
          go_wp2_with (first | ((with_reducible refine gate_callee (f := 73) rfl ?_); refine gl (some 46) Try.func73 #[.int .i64 x165002_6] ?_; (with_reducible refine (batch_within.calls x165002_6 true _ A21.out).mono ?_); rintro e w' ⟨rfl, ⟨nd, rfl⟩⟩; refine ⟨_, rfl, ?_⟩) | ((with_reducible refine gate_builtin (b := .append) (xs := #[.tmp 52, .tmp 54]) rfl ?_); at_builtin; refine Kd.R_append k50 (w0 := w0) w0.heap.size rfl (.tmp 52) (.tmp 54) 25 50 (.agg #[(.int .i64 0), (.int .u64 0), (.int .i64 0)]) 24 rfl Try.underlying25 info50 rfl (by decide) (by omega) u4 x4_1 (⟨((rd_T50 t162 x5_1).f0), ((rd_T50 t162 x5_1).f1), x165002_6⟩ : S50) [.int .i64 ((rd_T50 t162 x5_1).f0), .int .u64 ((rd_T50 t162 x5_1).f1), .int .i64 x165002_6] (fun k_ => (P0_ k_ ∨ w.heap.size ≤ k_) ∧ some k_ ≠ (.slice (some ad163) t162.length co3 : Value).ownBlock ∧ k_ ≠ gb164) (fun _ => False) rfl rfl ?aP (fun _ hk => hk.elim) ?aF ?aO ?aB ?aS ?aL ?_; (case aP => exact k50_mkM _ _ _ (⟨((rd_T50 t162 x5_1).f0), ((rd_T50 t162 x5_1).f1), x165002_6⟩ : S50)); (case aB => exact (by repeat (first | (with_reducible first | exact HB.out | apply below_alloc | apply pw_below_drewN | apply below_drew1 | refine below_set ?_ GE164.out) | exact HB.out))); (case aF => exact (fun k_ hk => ⟨(.inr (Nat.le_trans (by first | exact HK.out.1 | exact (show Kept w _ (fun k_ => P0_ k_) from by repeat (first | (with_reducible first | exact HK.out | apply Kept.alloc | apply Kept.drewN | apply Kept.drew | refine Kept.setCell ?_ (.inr GW164.out) _) | exact HK.out)).1) hk)), Kd.fresh' (Kd.R_lt (rn HO_0)) k_ hk, Kd.freshB (g := gb164) (o := .cells #[.int .i64 ((rd_T50 t162 x5_1).f0), .int .u64 ((rd_T50 t162 x5_1).f1), .int .i64 x165002_6] 50 (0, 0)) (by (with_reducible repeat (first | refine blk_drewN ?_ _ | refine blk_drew ?_ | refine blk_alloc ?_ _)); exact BK164.out) k_ hk⟩)); (case aO => exact (rn HO_4)); (case aS => exact (below_size (by repeat (first | (with_reducible first | exact HB.out | apply below_alloc | apply pw_below_drewN | apply below_drew1 | refine below_set ?_ GE164.out) | exact HB.out)))); (case aL => have := LMc25.out; omega); intro v170 w27 ho hb hg hat; rw [← Ny169.out] at ho; have n0_ := Aside0.mk (Kd.R_after (ok := (fun k_ => (P0_ k_ ∨ w.heap.size ≤ k_) ∧ k_ ≠ gb164)) (by (with_reducible repeat (first | apply Kd.R_alloc | apply Kd.R_drewN | apply Kd.R_drew)); exact Kd.R_mono HO_0.out (fun _ hk => ⟨⟨hk.1, hk.2.2⟩, hk.2.1⟩)) hg hat); have n1_ := Aside0.mk (blk_grown (g := gb164) (o := .cells #[.int .i64 ((rd_T50 t162 x5_1).f0), .int .u64 ((rd_T50 t162 x5_1).f1), .int .i64 x165002_6] 50 (0, 0)) (by (with_reducible repeat (first | refine blk_drewN ?_ _ | refine blk_drew ?_ | refine blk_alloc ?_ _)); exact BK164.out) hg (Kd.R_away HO_4.out (fun _ hk => hk.2.2))); have n2_ := Aside0.mk (hb); have n3_ := Aside0.mk (Kept.of_grown (S := (fun k_ => P0_ k_)) hg (by repeat (first | (with_reducible first | exact HK.out | apply Kept.alloc | apply Kept.drewN | apply Kept.drew | refine Kept.setCell ?_ (.inr GW164.out) _) | exact HK.out)) (fun k_ e_ => (HO_4.out.1 k_ e_).1)); have n4_ := Aside0.mk (ho); clear HO_0; clear BK164; clear HB; clear HK; clear HO_4; have HO_0 := n0_; have BK164 := n1_; have HB := n2_; have HK := n3_; have HO171 := n4_; clear n0_ n1_ n2_ n3_ n4_; clear ho hb hg hat))
          (try simp only [← hl0_1])
          go_roundg kj6
          case measure => have := HK1.out; have := HJ6.out; omega
          case rel => exact ⟨(y169), (x5_6), (by first | rfl | (simp; done) | (simp [*]; done)), H', ⟨by have := HK1.out; have := HJ6.out; omega⟩, ⟨by (try simp only [hl0_1]); (with_reducible repeat (first | apply Kd.R_alloc | apply Kd.R_drewN | apply Kd.R_drew)); exact Kd.R_mono HO_0.out (fun _ hk => ⟨hk.1.1, hk.2⟩)⟩, ⟨by (try simp only [hl0_1]); (with_reducible repeat (first | apply Kd.R_alloc | apply Kd.R_drewN | apply Kd.R_drew)); exact Kd.R_mono HO171.out (fun _ hk => ⟨hk.1, hk.2.1⟩)⟩, ⟨by repeat (first | (with_reducible first | exact HK.out | apply Kept.alloc | apply Kept.drewN | apply Kept.drew | refine Kept.setCell ?_ (.inr GW164.out) _) | exact HK.out)⟩, ⟨by repeat (first | (with_reducible first | exact HB.out | apply below_alloc | apply pw_below_drewN | apply below_drew1 | refine below_set ?_ GE164.out) | exact HB.out)⟩⟩
         ·rw [if_neg c25] at H
          exact absurd H (by simp)
       ·replace c22 := Bool.eq_false_iff.mpr c22
        subst c22
        have H1 : (some (([] : List (S50)), 10, t162)) = some (r1, r2, r3) := by rw [if_neg (show ¬ (false = true) by decide)] at H; exact H
        clear H
        have H := H1
        clear H1
        simp only [Option.some.injEq, Prod.mk.injEq] at H
        obtain ⟨rfl, rfl, rfl⟩ := H
        have hcz28_0 : wc.cell? ⟨gb164, 0, none⟩ = some (.int .i64 ((rd_T50 t162 x5_1).f0)) := (blk_cell BK164.out 0).trans rfl
        have hcz28_1 : wc.cell? ⟨gb164, 1, none⟩ = some (.int .u64 ((rd_T50 t162 x5_1).f1)) := (blk_cell BK164.out 1).trans rfl
        have hcz28_2 : wc.cell? ⟨gb164, 2, none⟩ = some (.int .i64 x165002_6) := (blk_cell BK164.out 2).trans rfl
        have hfz28_0 := blk_frozen BK164.out 0
        have hfz28_1 := blk_frozen BK164.out 1
        have hfz28_2 := blk_frozen BK164.out 2
        go_wp2_with (first | ((with_reducible refine gate_callee (f := 73) rfl ?_); refine gl (some 46) Try.func73 #[.int .i64 x165002_6] ?_; (with_reducible refine (batch_within.calls x165002_6 false _ A21.out).mono ?_); rintro e w' ⟨rfl, ⟨nd, rfl⟩⟩; refine ⟨_, rfl, ?_⟩))
        go_ret2
        exact ⟨_, by first | rfl | (simp [errW_none, errW_some] <;> rfl) | (simp [*, errW_none, errW_some] <;> rfl), (by first | exact (by first | exact Kd.R_nil _ _ _ _ _ | exact Kd.N_nil _ _ _ _ _ | exact Kd.V_nil _ _ _ _ _ | exact Kd.Q_nil _ _ _ _ _ | exact Kd.S_nil _ _ _ _ _) | (simp only [hl0_1]; exact (by first | exact Kd.R_nil _ _ _ _ _ | exact Kd.N_nil _ _ _ _ _ | exact Kd.V_nil _ _ _ _ _ | exact Kd.Q_nil _ _ _ _ _ | exact Kd.S_nil _ _ _ _ _))), (by first | exact (by (with_reducible repeat (first | apply Kd.R_alloc | apply Kd.R_drewN | apply Kd.R_drew)); exact Kd.R_mono HO_0.out (fun _ hk => hk.1)) | (simp only [hl0_1]; exact (by (with_reducible repeat (first | apply Kd.R_alloc | apply Kd.R_drewN | apply Kd.R_drew)); exact Kd.R_mono HO_0.out (fun _ hk => hk.1)))), by repeat (first | (with_reducible first | exact HB.out | apply below_alloc | apply pw_below_drewN | apply below_drew1 | refine below_set ?_ GE164.out) | exact HB.out), by repeat (first | (with_reducible first | exact HK.out | apply Kept.alloc | apply Kept.drewN | apply Kept.drew | refine Kept.setCell ?_ (.inr GW164.out) _) | exact HK.out)⟩
    ·rw [if_neg c6] at H
     exact absurd H (by simp)
   ·rw [if_neg c5] at H
    have c5b0 : decide (x5_1 < (t162.length : Int)) = false := decide_eq_false c5
    clear c5
    simp only [Option.some.injEq, Prod.mk.injEq] at H
    obtain ⟨rfl, rfl, rfl⟩ := H
    go_wp2
    go_ret2
    exact ⟨_, by first | rfl | (simp [errW_none, errW_some] <;> rfl) | (simp [*, errW_none, errW_some] <;> rfl), (by first | exact (rn HO_4) | (simp only [hl0_1]; exact (rn HO_4))), (by first | exact (by (with_reducible repeat (first | apply Kd.R_alloc | apply Kd.R_drewN | apply Kd.R_drew)); exact Kd.R_mono HO_0.out (fun _ hk => hk.1)) | (simp only [hl0_1]; exact (by (with_reducible repeat (first | apply Kd.R_alloc | apply Kd.R_drewN | apply Kd.R_drew)); exact Kd.R_mono HO_0.out (fun _ hk => hk.1)))), by repeat (first | (with_reducible first | exact HB.out | apply below_alloc | apply pw_below_drewN | apply below_drew1) | exact HB.out), by repeat (first | (with_reducible first | exact HK.out | apply Kept.alloc | apply Kept.drewN | apply Kept.drew) | exact HK.out)⟩
end Go.Proofs.Ytgeldmhgbnamcaa.P
end
section
namespace Go.Proofs.Ytgeldmhgbnamcaa.P
open Go.RowKit Go.Proofs.YtgeldmhgbnamcaaW.PrintWords Go.Proofs.YtgeldmhgbnamcaaW.PrintLast Go.Proofs.YtgeldmhgbnamcaaW.PrintMore
set_option linter.unusedVariables false
set_option linter.unusedSimpArgs false
def slices_CloneC.f (l0 : List S50) : Option (List S50) := if l0.length < 5864062014805 then some l0 else none
set_option maxHeartbeats 400000 in
theorem slices_CloneC.calls (A0 : Option Addr) (c0 : Nat) (l0 : List S50) (r : List S50) (w : World) (hr0 : Kd.C k50 w A0 l0.length l0) (hc0 : l0.length ≤ c0) (h : slices_CloneC.f l0 = some r) :
  Calls Try.prog 50 #[.slice A0 l0.length c0] w fun e w' => ∃ v0_ : Value, e = .returned v0_ ∧ Kd.R k50 50 w' w.heap.size (fun _ => True) v0_ r ∧ Below w.heap.size w w' := by
 unfold slices_CloneC.f at h
 by_cases hlim : l0.length < 5864062014805
 ·rw [if_pos hlim] at h
  obtain rfl := Option.some.inj h
  have LM := Aside0.mk hlim
  clear hlim h
  have HR := Aside0.mk hr0
  clear hr0 hc0
  cases A0 with
  | none =>
   obtain rfl : l0 = [] := by
    have h1 := HR.out.2.2
    cases l0 with
    | nil => rfl
    | cons x xs =>
     obtain ⟨ad, h2, _⟩ := h1 (by simp)
     cases h2
   have hq := fun W : World => Go.Lib.run_eql_slice_nil_nil (P := Try.prog) W (t := 23) 0 c0 Try.underlying23
   go_enter Try.func50, Try.ntmps50
   go_wp2
   go_ret
   exact ⟨_, rfl, Kd.R_nil _ _ _ _ _, Below.refl _ _⟩
  | some ad =>
   have hq := fun W : World => Go.Lib.run_eql_slice_some_nil (P := Try.prog) W (t := 23) ad l0.length c0 Try.underlying23
   go_enter Try.func50, Try.ntmps50
   go_wp2_with (first | ((with_reducible refine gate_dst (N := 5) rfl ?_); refine Kd.R_lit k50 _ 50 ?hg (N := 5) ?hd (xs := ([] : List S50)) (inner := []) (ok := fun _ => True) (okp := fun _ => True) ?hr ?hp (fun _ hk => hk) trivial (Below.refl _ _) (Nat.le_refl _) (by simp) ?_; (case hd => rfl); (case hg => rfl); (case hr => first | (go_simp; done) | (go_simp; rfl)); (case hp => exact (Reps.none _ _)); intro v1 w1 ho1 hb1 hg_ hnew_; clear hg_ hnew_; have HB1 := Aside0.mk hb1; have HO1 := Aside0.mk ho1; clear hb1 ho1) | ((with_reducible refine gate_builtin (b := .append) (xs := #[.tmp 5, .tmp 6]) rfl ?_); at_builtin; refine Kd.R_append_rows k50 (w0 := w) w.heap.size rfl (.tmp 5) (.tmp 6) 23 50 (.agg #[(.int .i64 0), (.int .u64 0), (.int .i64 0)]) 24 rfl Try.underlying23 info50 rfl (by decide) (by omega) v1 [] l0 _ _ _ (fun _ => True) (fun _ => False) rfl rfl ?aO ?aR (fun _ _ h => h) (fun _ h => h.elim) ?aF ?aB ?aS ?aL ?_; (case aR => exact Kd.C_below HR.out HB1.out); (case aB => exact HB1.out); (case aF => exact (fun _ _ => trivial)); (case aO => exact HO1.out); (case aS => exact HB1.out.size); (case aL => have := LM.out; simp only [List.length_nil]; omega); intro v2 w2 ho hb hg hat; have HB2 := Aside0.mk hb; have HO2 := Aside0.mk ho; clear ho hb hg hat))
   go_ret
   exact ⟨_, rfl, by have := HO2.out; rwa [List.nil_append] at this, HB2.out⟩
 ·rw [if_neg hlim] at h
  cases h
def slices_CloneB.f (l0 : List S50) : Option (List S50) := if l0.length < 5864062014805 then some l0 else none
set_option maxHeartbeats 400000 in
theorem slices_CloneB.calls (A0 : Option Addr) (c0 : Nat) (l0 : List S50) (r : List S50) (w : World) (hr0 : Kd.C k50 w A0 l0.length l0) (hc0 : l0.length ≤ c0) (h : slices_CloneB.f l0 = some r) :
  Calls Try.prog 62 #[.slice A0 l0.length c0] w fun e w' => ∃ v0_ : Value, e = .returned v0_ ∧ Kd.R k50 50 w' w.heap.size (fun _ => True) v0_ r ∧ Below w.heap.size w w' := by
 unfold slices_CloneB.f at h
 by_cases hlim : l0.length < 5864062014805
 ·rw [if_pos hlim] at h
  obtain rfl := Option.some.inj h
  have LM := Aside0.mk hlim
  clear hlim h
  have HR := Aside0.mk hr0
  clear hr0 hc0
  cases A0 with
  | none =>
   obtain rfl : l0 = [] := by
    have h1 := HR.out.2.2
    cases l0 with
    | nil => rfl
    | cons x xs =>
     obtain ⟨ad, h2, _⟩ := h1 (by simp)
     cases h2
   have hq := fun W : World => Go.Lib.run_eql_slice_nil_nil (P := Try.prog) W (t := 25) 0 c0 Try.underlying25
   go_enter Try.func62, Try.ntmps62
   go_wp2
   go_ret
   exact ⟨_, rfl, Kd.R_nil _ _ _ _ _, Below.refl _ _⟩
  | some ad =>
   have hq := fun W : World => Go.Lib.run_eql_slice_some_nil (P := Try.prog) W (t := 25) ad l0.length c0 Try.underlying25
   go_enter Try.func62, Try.ntmps62
   go_wp2_with (first | ((with_reducible refine gate_dst (N := 5) rfl ?_); refine Kd.R_lit k50 _ 50 ?hg (N := 5) ?hd (xs := ([] : List S50)) (inner := []) (ok := fun _ => True) (okp := fun _ => True) ?hr ?hp (fun _ hk => hk) trivial (Below.refl _ _) (Nat.le_refl _) (by simp) ?_; (case hd => rfl); (case hg => rfl); (case hr => first | (go_simp; done) | (go_simp; rfl)); (case hp => exact (Reps.none _ _)); intro v1 w1 ho1 hb1 hg_ hnew_; clear hg_ hnew_; have HB1 := Aside0.mk hb1; have HO1 := Aside0.mk ho1; clear hb1 ho1) | ((with_reducible refine gate_builtin (b := .append) (xs := #[.tmp 5, .tmp 6]) rfl ?_); at_builtin; refine Kd.R_append_rows k50 (w0 := w) w.heap.size rfl (.tmp 5) (.tmp 6) 25 50 (.agg #[(.int .i64 0), (.int .u64 0), (.int .i64 0)]) 24 rfl Try.underlying25 info50 rfl (by decide) (by omega) v1 [] l0 _ _ _ (fun _ => True) (fun _ => False) rfl rfl ?aO ?aR (fun _ _ h => h) (fun _ h => h.elim) ?aF ?aB ?aS ?aL ?_; (case aR => exact Kd.C_below HR.out HB1.out); (case aB => exact HB1.out); (case aF => exact (fun _ _ => trivial)); (case aO => exact HO1.out); (case aS => exact HB1.out.size); (case aL => have := LM.out; simp only [List.length_nil]; omega); intro v2 w2 ho hb hg hat; have HB2 := Aside0.mk hb; have HO2 := Aside0.mk ho; clear ho hb hg hat))
   go_ret
   exact ⟨_, rfl, by have := HO2.out; rwa [List.nil_append] at this, HB2.out⟩
 ·rw [if_neg hlim] at h
  cases h
def slices_CloneU.f (l0 : List Int) : Option (List Int) := if l0.length < 17592186044416 then some l0 else none
set_option maxHeartbeats 400000 in
theorem slices_CloneU.calls (A0 : Option Addr) (c0 : Nat) (l0 : List Int) (r : List Int) (w : World) (hr0 : Kd.C (Kd.int .u64) w A0 l0.length l0) (hc0 : l0.length ≤ c0) (h : slices_CloneU.f l0 = some r) :
  Calls Try.prog 86 #[.slice A0 l0.length c0] w fun e w' => ∃ v0_ : Value, e = .returned v0_ ∧ Kd.R (Kd.int .u64) 38 w' w.heap.size (fun _ => True) v0_ r ∧ Below w.heap.size w w' := by
 unfold slices_CloneU.f at h
 by_cases hlim : l0.length < 17592186044416
 ·rw [if_pos hlim] at h
  obtain rfl := Option.some.inj h
  have LM := Aside0.mk hlim
  clear hlim h
  have HR := Aside0.mk hr0
  clear hr0 hc0
  cases A0 with
  | none =>
   obtain rfl : l0 = [] := by
    have h1 := HR.out.2.2
    cases l0 with
    | nil => rfl
    | cons x xs =>
     obtain ⟨ad, h2, _⟩ := h1 (by simp)
     cases h2
   have hq := fun W : World => Go.Lib.run_eql_slice_nil_nil (P := Try.prog) W (t := 67) 0 c0 Try.underlying67
   go_enter Try.func86, Try.ntmps86
   go_wp2
   go_ret
   exact ⟨_, rfl, Kd.R_nil _ _ _ _ _, Below.refl _ _⟩
  | some ad =>
   have hq := fun W : World => Go.Lib.run_eql_slice_some_nil (P := Try.prog) W (t := 67) ad l0.length c0 Try.underlying67
   go_enter Try.func86, Try.ntmps86
   go_wp2_with (first | ((with_reducible refine gate_dst (N := 5) rfl ?_); refine Kd.R_lit (Kd.int .u64) _ 38 ?hg (N := 5) ?hd (xs := ([] : List Int)) (inner := []) (ok := fun _ => True) (okp := fun _ => True) ?hr ?hp (fun _ hk => hk) trivial (Below.refl _ _) (Nat.le_refl _) (by simp) ?_; (case hd => rfl); (case hg => rfl); (case hr => first | (go_simp; done) | (go_simp; rfl)); (case hp => exact (Reps.none _ _)); intro v1 w1 ho1 hb1 hg_ hnew_; clear hg_ hnew_; have HB1 := Aside0.mk hb1; have HO1 := Aside0.mk ho1; clear hb1 ho1) | ((with_reducible refine gate_builtin (b := .append) (xs := #[.tmp 5, .tmp 6]) rfl ?_); at_builtin; refine Kd.R_append_rows (Kd.int .u64) (w0 := w) w.heap.size rfl (.tmp 5) (.tmp 6) 67 38 (.int .u64 0) 8 rfl Try.underlying67 info38 rfl (by decide) (by omega) v1 [] l0 _ _ _ (fun _ => True) (fun _ => False) rfl rfl ?aO ?aR (fun _ _ h => h) (fun _ h => h.elim) ?aF ?aB ?aS ?aL ?_; (case aR => exact Kd.C_below HR.out HB1.out); (case aB => exact HB1.out); (case aF => exact (fun _ _ => trivial)); (case aO => exact HO1.out); (case aS => exact HB1.out.size); (case aL => have := LM.out; simp only [List.length_nil]; omega); intro v2 w2 ho hb hg hat; have HB2 := Aside0.mk hb; have HO2 := Aside0.mk ho; clear ho hb hg hat))
   go_ret
   exact ⟨_, rfl, by have := HO2.out; rwa [List.nil_append] at this, HB2.out⟩
 ·rw [if_neg hlim] at h
  cases h
end Go.Proofs.Ytgeldmhgbnamcaa.P
end
section
-- Printed by the session's own turn of the print (wip/tools/print2.sh): some callees are proved by hand.
namespace Go.Proofs.Ytgeldmhgbnamcaa.P
open Go.RowKit Go.Proofs.YtgeldmhgbnamcaaW.PrintWords Go.Proofs.YtgeldmhgbnamcaaW.PrintLast Go.Proofs.YtgeldmhgbnamcaaW.PrintMore
attribute [local go_sem] max2_int min2_int max_two min_two max_three min_three max_four min_four   -- for this text's walks alone
set_option linter.unusedVariables false
set_option linter.unusedSimpArgs false
/-! ### batch_Change_55: function 55 -/
def batch_Change_55.l0 : Nat → List (S50) → Int → Int → Int → Int → Int → Int → Option (Int × Bool)
 | 0, _, _, _, _, _, _, _ => none
 | k + 1, x0, x8, x9, x10, x225000, x225001, x225002 => if x9 < x10 then (if 0 ≤ (wrap64 ((IntKind.u64.wrap (wrap64 (x9 + x10))) / 2)) then (if (wrap64 ((IntKind.u64.wrap (wrap64 (x9 + x10))) / 2)) < (x0.length : Int) then ((batch_order.f k ((rd_T50 x0 (wrap64 ((IntKind.u64.wrap (wrap64 (x9 + x10))) / 2))).f0) ((rd_T50 x0 (wrap64 ((IntKind.u64.wrap (wrap64 (x9 + x10))) / 2))).f1) ((rd_T50 x0 (wrap64 ((IntKind.u64.wrap (wrap64 (x9 + x10))) / 2))).f2) x225000 x225001 x225002).bind fun t226 => (if t226 < 0 then (batch_Change_55.l0 k x0 x8 (wrap64 ((wrap64 ((IntKind.u64.wrap (wrap64 (x9 + x10))) / 2)) + 1)) x10 x225000 x225001 x225002) else (batch_Change_55.l0 k x0 x8 x9 (wrap64 ((IntKind.u64.wrap (wrap64 (x9 + x10))) / 2)) x225000 x225001 x225002))) else (none)) else (none)) else (if x9 < x8 then (if 0 ≤ x9 then (if x9 < (x0.length : Int) then ((batch_order.f k ((rd_T50 x0 x9).f0) ((rd_T50 x0 x9).f1) ((rd_T50 x0 x9).f2) x225000 x225001 x225002).bind fun t228 => (some (x9, (t228 == 0)))) else (none)) else (none)) else (some (x9, false)))
def batch_Change_55.f (k : Nat) (l0 : List (S50)) (a1_0 : Int) (a1_1 : Int) (a1_2 : Int)  : Option (Int × Bool) := batch_Change_55.l0 k l0 (l0.length : Int) 0 (l0.length : Int) a1_0 a1_1 a1_2
theorem batch_Change_55.mono_l : ∀ k, (∀ y0 y1 y2 y3 y4 y5 y6, LeO (batch_Change_55.l0 k y0 y1 y2 y3 y4 y5 y6) (batch_Change_55.l0 (k + 1) y0 y1 y2 y3 y4 y5 y6))
 | 0 => fun _ _ _ _ _ _ _ r h => by simp [batch_Change_55.l0] at h
 | k + 1 => by
  have ih0 := batch_Change_55.mono_l k
  ·intro y0 y1 y2 y3 y4 y5 y6
   unfold batch_Change_55.l0
   repeat' first
   | (with_reducible exact ih0 _ _ _ _ _ _ _)
   | (with_reducible exact batch_order.mono _ _ _ _ _ _ _)
   | (with_reducible exact LeO.refl _)
   | (with_reducible exact LeO.none _)
   | (with_reducible refine LeO.ite ?_ ?_)
   | (with_reducible refine LeO.bind ?_ (fun _ => ?_))
   | exact ih0 _ _ _ _ _ _ _
   | exact batch_order.mono _ _ _ _ _ _ _
   | exact LeO.none _
   | refine LeO.ite ?_ ?_
   | refine LeO.bind ?_ (fun _ => ?_)
theorem batch_Change_55.mono : ∀ a0 a1 a2 a3 k, LeO (batch_Change_55.f k a0 a1 a2 a3) (batch_Change_55.f (k + 1) a0 a1 a2 a3) := by
 intro a0 a1 a2 a3 k
 have ih0 := batch_Change_55.mono_l k
 unfold batch_Change_55.f
 repeat' first
   | (with_reducible exact ih0 _ _ _ _ _ _ _)
   | (with_reducible exact batch_order.mono _ _ _ _ _ _ _)
   | (with_reducible exact LeO.refl _)
   | (with_reducible exact LeO.none _)
   | (with_reducible refine LeO.ite ?_ ?_)
   | (with_reducible refine LeO.bind ?_ (fun _ => ?_))
   | exact ih0 _ _ _ _ _ _ _
   | exact batch_order.mono _ _ _ _ _ _ _
   | exact LeO.none _
   | refine LeO.ite ?_ ?_
   | refine LeO.bind ?_ (fun _ => ?_)
def batch_Change_55.T5 : Bool × List (List Nat × List Nat) := (true, [([], []), ([], []), ([], []), ([1, 2], [1, 2]), ([3], [3]), ([], []), ([0, 4, 5], [0, 4, 5]), ([6], [6])])
def batch_Change_55.B5 : List Nat := [0, 0, 0, 6, 14, 0, 63, 127]
theorem batch_Change_55.tab5 : rtab .any (opsOf Try.f55 5) = batch_Change_55.T5 := by kernel_rfl
theorem batch_Change_55.bits5 : waitsOk batch_Change_55.T5.2 batch_Change_55.B5 = true := by kernel_rfl
def batch_Change_55.T8 : Bool × List (List Nat × List Nat) := (true, [([], []), ([], []), ([], []), ([1, 2], [1, 2]), ([3], [3]), ([4], [4]), ([4], [4]), ([4], [4]), ([6, 7, 4], [4, 6, 7]), ([8, 4], [4, 8]), ([4], [4]), ([5, 9, 10, 4, 4], [4, 5, 9, 10]), ([11, 4], [4, 11]), ([4, 12], [4, 12]), ([0, 11, 0], [0]), ([13, 14, 0, 1, 2, 3, 4, 5, 6, 7, 8, 9, 10, 11, 12, 13, 14], [13])])
def batch_Change_55.B8 : List Nat := [0, 0, 0, 6, 14, 30, 30, 30, 222, 478, 30, 2046, 4094, 8190, 4095, 32767]
theorem batch_Change_55.tab8 : rtab .any (opsOf Try.f55 8) = batch_Change_55.T8 := by kernel_rfl
theorem batch_Change_55.bits8 : waitsOk batch_Change_55.T8.2 batch_Change_55.B8 = true := by kernel_rfl
set_option maxHeartbeats 8000000 in
set_option maxRecDepth 100000 in
theorem batch_Change_55.calls (k : Nat) (A0 : Option Addr) (c0 : Nat) (l0 : List (S50)) (a1_0 : Int) (a1_1 : Int) (a1_2 : Int)  (r1 : Int) (r2 : Bool) (w : World) (hr0 : Kd.C k50 w A0 l0.length l0) (hc0 : l0.length ≤ c0) (h : batch_Change_55.f k l0 a1_0 a1_1 a1_2 = some (r1, r2)) :
  Calls Try.prog 55 #[.slice A0 l0.length c0, .agg #[.int .i64 a1_0, .int .u64 a1_1, .int .i64 a1_2], .func (.func 53) #[] #[]] w fun e w' => e = .returned (.tuple #[.int .i64 r1, .bool r2]) ∧ Below w.heap.size w w' := by
 have hu50 := Try.underlying50
 have HR0 := Aside0.mk hr0
 have HC0 := Aside0.mk hc0
 clear hr0 hc0
 have HB := Aside0.mk (Below.refl w.heap.size w)
 have H : (batch_Change_55.l0 k l0 (l0.length : Int) 0 (l0.length : Int) a1_0 a1_1 a1_2) = some (r1, r2) := h
 clear h
 have H' := Aside0.mk H
 clear H
 go_enter Try.func55, Try.ntmps55
 go_wp2_with (first | ((with_reducible refine gate_dst (N := 4) rfl ?_); refine box_event ?hg (N := 4) ?hd (cs := #[.int .i64 a1_0, .int .u64 a1_1, .int .i64 a1_2]) (t := 50) ?hr ?_; (case hd => rfl); (case hg => rfl); (case hr => first | (go_simp; done) | (go_simp; rfl)); intro gb224 hg w4 hbox hb; have n1_ := Aside0.mk (hbox); have n2_ := Aside0.mk ((by rw [hg]; exact (below_size (bn HB)) : w.heap.size ≤ gb224)); have n3_ := Aside0.mk ((by rw [hg]; exact (below_size (bn HB)) : w.heap.size ≤ gb224)); replace HB := bb HB hb; have BK224 := n1_; have GW224 := n2_; have GE224 := n3_; clear n1_ n2_ n3_; clear hb hbox hg))
 go_loopg [9, 10] k (fun kq v9 v10 w' => ∃ (x9_1 : Int) (x10_1 : Int), v9 = .int .i64 x9_1 ∧ v10 = .int .i64 x10_1 ∧ Aside0 (batch_Change_55.l0 kq l0 (l0.length : Int) x9_1 x10_1 a1_0 a1_1 a1_2 = some (r1, r2)) ∧ Aside0 (kq ≤ k) ∧ Aside0 (w'.heap[gb224]? = some (.cells #[.int .i64 a1_0, .int .u64 a1_1, .int .i64 a1_2] 50 (0, 0))) ∧ Aside0 (Below w.heap.size w w'))
 case atStart => exact ⟨(0), ((l0.length : Int)), (by first | rfl | (simp; done) | (simp [*]; done)), (by first | rfl | (simp; done) | (simp [*]; done)), H', ⟨Nat.le_refl _⟩, ⟨by (with_reducible repeat (first | refine blk_drewN ?_ _ | refine blk_drew ?_ | refine blk_alloc ?_ _)); exact BK224.out⟩, ⟨by repeat (first | (with_reducible first | exact HB.out | apply below_alloc | apply pw_below_drewN | apply below_drew1 | refine below_set ?_ GE224.out) | exact HB.out)⟩⟩
 case round =>
  clear H'
  (try clear p2)
  obtain ⟨x9_1, x10_1, rfl, rfl, HA, HK1, BK224, HB⟩ := hrel
  cases gk with
  | zero => exact absurd HA.out (by simp [batch_Change_55.l0])
  | succ k1 =>
   have H := HA.out
   clear HA
   simp only [batch_Change_55.l0] at H
   by_cases c5 : x9_1 < x10_1
   ·rw [if_pos c5] at H
    have c5b0 : decide (x9_1 < x10_1) = true := decide_eq_true c5
    clear c5
    obtain ⟨ji6, hji6⟩ : ∃ j_ : Int, (wrap64 ((IntKind.u64.wrap (wrap64 (x9_1 + x10_1))) / 2)) = j_ := ⟨_, rfl⟩
    replace H : (if 0 ≤ (ji6) then (if (ji6) < (l0.length : Int) then ((batch_order.f k1 ((rd_T50 l0 (ji6)).f0) ((rd_T50 l0 (ji6)).f1) ((rd_T50 l0 (ji6)).f2) a1_0 a1_1 a1_2).bind fun t226 => (if t226 < 0 then (batch_Change_55.l0 k1 l0 (l0.length : Int) (wrap64 ((ji6) + 1)) x10_1 a1_0 a1_1 a1_2) else (batch_Change_55.l0 k1 l0 (l0.length : Int) x9_1 ji6 a1_0 a1_1 a1_2))) else (none)) else (none)) = some (r1, r2) := by first | (rw [hji6] at H; exact H) | (simp only [hji6] at H ⊢; exact H)
    have hji6w : (IntKind.i64.wrap ((IntKind.u64.wrap (wrap64 (x9_1 + x10_1))) / 2)) = ji6 := (i64_w _).trans hji6
    by_cases c7 : 0 ≤ (ji6)
    ·rw [if_pos c7] at H
     have c7b0 : decide (0 ≤ (ji6)) = true := decide_eq_true c7
     clear c7
     by_cases c8 : (ji6) < (l0.length : Int)
     ·rw [if_pos c8] at H
      have c8b0 : decide ((ji6) < (l0.length : Int)) = true := decide_eq_true c8
      clear c8
      replace H := Option.bind_eq_some_iff.mp H
      obtain ⟨t226, A90, H⟩ := H
      replace H : (if t226 < 0 then (batch_Change_55.l0 k1 l0 (l0.length : Int) (wrap64 ((ji6) + 1)) x10_1 a1_0 a1_1 a1_2) else (batch_Change_55.l0 k1 l0 (l0.length : Int) x9_1 ji6 a1_0 a1_1 a1_2)) = some (r1, r2) := H
      have A9 := Aside0.mk A90
      clear A90
      by_cases c10 : t226 < 0
      ·rw [if_pos c10] at H
       have c10b0 : decide (t226 < 0) = true := decide_eq_true c10
       clear c10
       have H' := Aside0.mk H
       clear H
       try go_wp2
       have n0_ := Aside0.mk (blk_drew BK224.out)
       have n1_ := Aside0.mk (below_drew1 HB.out)
       clear BK224
       clear HB
       have BK224 := n0_
       have HB := n1_
       clear n0_ n1_
       have p225 : 0 ≤ ((ji6) : Int) := of_decide_eq_true (by assumption)
       have q225 : (ji6) < (l0.length : Int) := of_decide_eq_true (by assumption)
       obtain ⟨ad225, e225, hx225_0, hx225_1, hx225_2⟩ := at_T50 HR0.out (ji6) p225 q225
       have hw225_2 := hx225_2
       have hw225_1 := hx225_1
       have hw225_0 := hx225_0
       cases e225
       replace hx225_0 := (HB.out.cell (World.block_lt_of_cell? w _ hx225_0)).trans hx225_0
       replace hx225_1 := (HB.out.cell (World.block_lt_of_cell? w _ hx225_1)).trans hx225_1
       replace hx225_2 := (HB.out.cell (World.block_lt_of_cell? w _ hx225_2)).trans hx225_2
       replace p225 := eq_true p225
       replace q225 := eq_true q225
       refine start_ (n := 8) (S := fun w' => w'.cell? ⟨gb224, 0, none⟩ = some (.int .i64 a1_0) ∧ w'.cell? ⟨gb224, 1, none⟩ = some (.int .u64 a1_1) ∧ w'.cell? ⟨gb224, 2, none⟩ = some (.int .i64 a1_2) ∧ w'.cell? (ad225.add (((ji6)).toNat * 3)) = some (.int .i64 ((rd_T50 l0 (ji6)).f0)) ∧ w'.cell? ⟨(ad225.add (((ji6)).toNat * 3)).block, (ad225.add (((ji6)).toNat * 3)).off + 1, none⟩ = some (.int .u64 ((rd_T50 l0 (ji6)).f1)) ∧ w'.cell? ⟨(ad225.add (((ji6)).toNat * 3)).block, (ad225.add (((ji6)).toNat * 3)).off + 2, none⟩ = some (.int .i64 ((rd_T50 l0 (ji6)).f2))) (ds := []) (mk_ 0 8) (by kernel_rfl) rfl rfl ⟨(blk_cell BK224.out 0).trans rfl, (blk_cell BK224.out 1).trans rfl, (blk_cell BK224.out 2).trans rfl, ((HB.out.cell (World.block_lt_of_cell? w _ hw225_0)).trans hw225_0), ((HB.out.cell (World.block_lt_of_cell? w _ hw225_1)).trans hw225_1), ((HB.out.cell (World.block_lt_of_cell? w _ hw225_2)).trans hw225_2)⟩ (fun hHeld => ?_); refine with_tabW batch_Change_55.tab5 batch_Change_55.bits5 (fun HT_ HW_ => ?_)
       generalize wr.drew = w11 at BK224 HB hx225_0 hx225_1 hx225_2 hHeld ⊢
       refine pv_ 0 24 (mk_ 1 7) HT_ ?_
       refine pv_ 1 25 (mk_ 2 6) HT_ ?_
       refine pv_ 2 26 (mk_ 3 5) HT_ ?_
       refine pv_ 3 27 (mk_ 4 4) HT_ ?_
       refine tv_ 4 28 (mk_ 5 3) HT_ HW_ hHeld (hy := by rintro w' ⟨s0, s1, s2, s3, s4, s5⟩; go_simp; with_reducible rfl) (h := ?_)
       refine tv_ 5 29 (mk_ 6 2) HT_ HW_ hHeld (hy := by rintro w' ⟨s0, s1, s2, s3, s4, s5⟩; go_simp; with_reducible rfl) (h := ?_)
       refine one_ (i := 6) (N := some 30) (mk_ 7 1) rfl rfl (one_of HT_.out (by kernel_rfl)) (by decide) (fun K hK => ?_)
       refine goesTT_ Try.func53 (by kernel_rfl) rfl #[.agg #[.int .i64 ((rd_T50 l0 (ji6)).f0), .int .u64 ((rd_T50 l0 (ji6)).f1), .int .i64 ((rd_T50 l0 (ji6)).f2)], .agg #[.int .i64 a1_0, .int .u64 a1_1, .int .i64 a1_2]] (by rfl) rfl rfl rfl (by (try simp only [List.map_toArray, List.map_cons, List.map_nil]); first | done | (simp only [hji6]; rfl) | rfl | (simp only [List.length_drop, List.length_take]; rfl)) ?_
       with_reducible refine (batch_order.calls k1 ((rd_T50 l0 (ji6)).f0) ((rd_T50 l0 (ji6)).f1) ((rd_T50 l0 (ji6)).f2) a1_0 a1_1 a1_2 t226 _ A9.out).mono ?_
       rintro e w12 ⟨rfl, hb⟩
       refine ⟨_, rfl, ?_⟩
       have n0_ := Aside0.mk (blk_below (g := gb224) (o := .cells #[.int .i64 a1_0, .int .u64 a1_1, .int .i64 a1_2] 50 (0, 0)) (by (with_reducible repeat (first | refine blk_drewN ?_ _ | refine blk_drew ?_ | refine blk_alloc ?_ _)); exact BK224.out) hb)
       have n1_ := Aside0.mk (below_step (by repeat (first | (with_reducible first | exact HB.out | apply below_alloc | apply pw_below_drewN | apply below_drew1 | refine below_set ?_ GE224.out) | exact HB.out)) hb)
       clear BK224
       clear HB
       have BK224 := n0_
       have HB := n1_
       clear n0_ n1_
       (try clear hb)
       (try clear hb2)
       (try clear hk)
       (try clear hi)
       refine hK.out _ _ ⟨(blk_cell BK224.out 0).trans rfl, (blk_cell BK224.out 1).trans rfl, (blk_cell BK224.out 2).trans rfl, ((HB.out.cell (World.block_lt_of_cell? w _ hw225_0)).trans hw225_0), ((HB.out.cell (World.block_lt_of_cell? w _ hw225_1)).trans hw225_1), ((HB.out.cell (World.block_lt_of_cell? w _ hw225_2)).trans hw225_2)⟩ (fun hHeld => ?_)
       clear hK K
       refine norm_ (a' := ?_) ?_ ?_
       rotate_left
       ·show Act.put _ (some 30) _ = _
        simp only [Act.put, List.setIfInBounds_toArray, List.set_cons_zero, List.set_cons_succ, i64_w, i32_w]
        rfl
       refine pv_ 7 31 (mk_ 8 0) HT_ ?_
       refine done_ (done_of HT_.out (by kernel_rfl)) ?_
       try go_wp2
       go_roundg k1
       case measure => have := HK1.out; omega
       case rel => exact ⟨(wrap64 ((ji6) + 1)), (x10_1), (by first | rfl | (simp; done) | (simp only [← hji6] <;> (first | rfl | simp)) | (simp [*]; done)), (by first | rfl | (simp; done) | (simp [*]; done)), H', ⟨by have := HK1.out; omega⟩, ⟨by (with_reducible repeat (first | refine blk_drewN ?_ _ | refine blk_drew ?_ | refine blk_alloc ?_ _)); exact BK224.out⟩, ⟨by repeat (first | (with_reducible first | exact HB.out | apply below_alloc | apply pw_below_drewN | apply below_drew1 | refine below_set ?_ GE224.out) | exact HB.out)⟩⟩
      ·rw [if_neg c10] at H
       have c10b0 : decide (t226 < 0) = false := decide_eq_false c10
       clear c10
       have H' := Aside0.mk H
       clear H
       try go_wp2
       have n0_ := Aside0.mk (blk_drew BK224.out)
       have n1_ := Aside0.mk (below_drew1 HB.out)
       clear BK224
       clear HB
       have BK224 := n0_
       have HB := n1_
       clear n0_ n1_
       have p225 : 0 ≤ ((ji6) : Int) := of_decide_eq_true (by assumption)
       have q225 : (ji6) < (l0.length : Int) := of_decide_eq_true (by assumption)
       obtain ⟨ad225, e225, hx225_0, hx225_1, hx225_2⟩ := at_T50 HR0.out (ji6) p225 q225
       have hw225_2 := hx225_2
       have hw225_1 := hx225_1
       have hw225_0 := hx225_0
       cases e225
       replace hx225_0 := (HB.out.cell (World.block_lt_of_cell? w _ hx225_0)).trans hx225_0
       replace hx225_1 := (HB.out.cell (World.block_lt_of_cell? w _ hx225_1)).trans hx225_1
       replace hx225_2 := (HB.out.cell (World.block_lt_of_cell? w _ hx225_2)).trans hx225_2
       replace p225 := eq_true p225
       replace q225 := eq_true q225
       refine start_ (n := 8) (S := fun w' => w'.cell? ⟨gb224, 0, none⟩ = some (.int .i64 a1_0) ∧ w'.cell? ⟨gb224, 1, none⟩ = some (.int .u64 a1_1) ∧ w'.cell? ⟨gb224, 2, none⟩ = some (.int .i64 a1_2) ∧ w'.cell? (ad225.add (((ji6)).toNat * 3)) = some (.int .i64 ((rd_T50 l0 (ji6)).f0)) ∧ w'.cell? ⟨(ad225.add (((ji6)).toNat * 3)).block, (ad225.add (((ji6)).toNat * 3)).off + 1, none⟩ = some (.int .u64 ((rd_T50 l0 (ji6)).f1)) ∧ w'.cell? ⟨(ad225.add (((ji6)).toNat * 3)).block, (ad225.add (((ji6)).toNat * 3)).off + 2, none⟩ = some (.int .i64 ((rd_T50 l0 (ji6)).f2))) (ds := []) (mk_ 0 8) (by kernel_rfl) rfl rfl ⟨(blk_cell BK224.out 0).trans rfl, (blk_cell BK224.out 1).trans rfl, (blk_cell BK224.out 2).trans rfl, ((HB.out.cell (World.block_lt_of_cell? w _ hw225_0)).trans hw225_0), ((HB.out.cell (World.block_lt_of_cell? w _ hw225_1)).trans hw225_1), ((HB.out.cell (World.block_lt_of_cell? w _ hw225_2)).trans hw225_2)⟩ (fun hHeld => ?_); refine with_tabW batch_Change_55.tab5 batch_Change_55.bits5 (fun HT_ HW_ => ?_)
       generalize wr.drew = w13 at BK224 HB hx225_0 hx225_1 hx225_2 hHeld ⊢
       refine pv_ 0 24 (mk_ 1 7) HT_ ?_
       refine pv_ 1 25 (mk_ 2 6) HT_ ?_
       refine pv_ 2 26 (mk_ 3 5) HT_ ?_
       refine pv_ 3 27 (mk_ 4 4) HT_ ?_
       refine tv_ 4 28 (mk_ 5 3) HT_ HW_ hHeld (hy := by rintro w' ⟨s0, s1, s2, s3, s4, s5⟩; go_simp; with_reducible rfl) (h := ?_)
       refine tv_ 5 29 (mk_ 6 2) HT_ HW_ hHeld (hy := by rintro w' ⟨s0, s1, s2, s3, s4, s5⟩; go_simp; with_reducible rfl) (h := ?_)
       refine one_ (i := 6) (N := some 30) (mk_ 7 1) rfl rfl (one_of HT_.out (by kernel_rfl)) (by decide) (fun K hK => ?_)
       refine goesTT_ Try.func53 (by kernel_rfl) rfl #[.agg #[.int .i64 ((rd_T50 l0 (ji6)).f0), .int .u64 ((rd_T50 l0 (ji6)).f1), .int .i64 ((rd_T50 l0 (ji6)).f2)], .agg #[.int .i64 a1_0, .int .u64 a1_1, .int .i64 a1_2]] (by rfl) rfl rfl rfl (by (try simp only [List.map_toArray, List.map_cons, List.map_nil]); first | done | (simp only [hji6]; rfl) | rfl | (simp only [List.length_drop, List.length_take]; rfl)) ?_
       with_reducible refine (batch_order.calls k1 ((rd_T50 l0 (ji6)).f0) ((rd_T50 l0 (ji6)).f1) ((rd_T50 l0 (ji6)).f2) a1_0 a1_1 a1_2 t226 _ A9.out).mono ?_
       rintro e w14 ⟨rfl, hb⟩
       refine ⟨_, rfl, ?_⟩
       have n0_ := Aside0.mk (blk_below (g := gb224) (o := .cells #[.int .i64 a1_0, .int .u64 a1_1, .int .i64 a1_2] 50 (0, 0)) (by (with_reducible repeat (first | refine blk_drewN ?_ _ | refine blk_drew ?_ | refine blk_alloc ?_ _)); exact BK224.out) hb)
       have n1_ := Aside0.mk (below_step (by repeat (first | (with_reducible first | exact HB.out | apply below_alloc | apply pw_below_drewN | apply below_drew1 | refine below_set ?_ GE224.out) | exact HB.out)) hb)
       clear BK224
       clear HB
       have BK224 := n0_
       have HB := n1_
       clear n0_ n1_
       (try clear hb)
       (try clear hb2)
       (try clear hk)
       (try clear hi)
       refine hK.out _ _ ⟨(blk_cell BK224.out 0).trans rfl, (blk_cell BK224.out 1).trans rfl, (blk_cell BK224.out 2).trans rfl, ((HB.out.cell (World.block_lt_of_cell? w _ hw225_0)).trans hw225_0), ((HB.out.cell (World.block_lt_of_cell? w _ hw225_1)).trans hw225_1), ((HB.out.cell (World.block_lt_of_cell? w _ hw225_2)).trans hw225_2)⟩ (fun hHeld => ?_)
       clear hK K
       refine norm_ (a' := ?_) ?_ ?_
       rotate_left
       ·show Act.put _ (some 30) _ = _
        simp only [Act.put, List.setIfInBounds_toArray, List.set_cons_zero, List.set_cons_succ, i64_w, i32_w]
        rfl
       refine pv_ 7 31 (mk_ 8 0) HT_ ?_
       refine done_ (done_of HT_.out (by kernel_rfl)) ?_
       try go_wp2
       go_roundg k1
       case measure => have := HK1.out; omega
       case rel => exact ⟨(x9_1), (ji6), (by first | rfl | (simp; done) | (simp [*]; done)), (by first | rfl | (simp; done) | (simp only [← hji6] <;> (first | rfl | simp)) | (simp [*]; done)), H', ⟨by have := HK1.out; omega⟩, ⟨by (with_reducible repeat (first | refine blk_drewN ?_ _ | refine blk_drew ?_ | refine blk_alloc ?_ _)); exact BK224.out⟩, ⟨by repeat (first | (with_reducible first | exact HB.out | apply below_alloc | apply pw_below_drewN | apply below_drew1 | refine below_set ?_ GE224.out) | exact HB.out)⟩⟩
     ·rw [if_neg c8] at H
      exact absurd H (by simp)
    ·rw [if_neg c7] at H
     exact absurd H (by simp)
   ·rw [if_neg c5] at H
    have c5b0 : decide (x9_1 < x10_1) = false := decide_eq_false c5
    clear c5
    by_cases c15 : x9_1 < (l0.length : Int)
    ·rw [if_pos c15] at H
     have c15b0 : decide (x9_1 < (l0.length : Int)) = true := decide_eq_true c15
     clear c15
     by_cases c16 : 0 ≤ x9_1
     ·rw [if_pos c16] at H
      have c16b0 : decide (0 ≤ x9_1) = true := decide_eq_true c16
      clear c16
      by_cases c17 : x9_1 < (l0.length : Int)
      ·rw [if_pos c17] at H
       have c17b0 : decide (x9_1 < (l0.length : Int)) = true := decide_eq_true c17
       clear c17
       replace H := Option.bind_eq_some_iff.mp H
       obtain ⟨t228, A180, H⟩ := H
       replace H : (some (x9_1, (t228 == 0))) = some (r1, r2) := H
       have A18 := Aside0.mk A180
       clear A180
       simp only [Option.some.injEq, Prod.mk.injEq] at H
       obtain ⟨rfl, rfl⟩ := H
       try go_wp2
       have n0_ := Aside0.mk (blk_drew BK224.out)
       have n1_ := Aside0.mk (below_drew1 HB.out)
       clear BK224
       clear HB
       have BK224 := n0_
       have HB := n1_
       clear n0_ n1_
       have p227 : 0 ≤ (x9_1 : Int) := of_decide_eq_true (by assumption)
       have q227 : x9_1 < (l0.length : Int) := of_decide_eq_true (by assumption)
       obtain ⟨ad227, e227, hx227_0, hx227_1, hx227_2⟩ := at_T50 HR0.out x9_1 p227 q227
       have hw227_2 := hx227_2
       have hw227_1 := hx227_1
       have hw227_0 := hx227_0
       cases e227
       replace hx227_0 := (HB.out.cell (World.block_lt_of_cell? w _ hx227_0)).trans hx227_0
       replace hx227_1 := (HB.out.cell (World.block_lt_of_cell? w _ hx227_1)).trans hx227_1
       replace hx227_2 := (HB.out.cell (World.block_lt_of_cell? w _ hx227_2)).trans hx227_2
       replace p227 := eq_true p227
       replace q227 := eq_true q227
       refine start_ (n := 16) (S := fun w' => w'.cell? ⟨gb224, 0, none⟩ = some (.int .i64 a1_0) ∧ w'.cell? ⟨gb224, 1, none⟩ = some (.int .u64 a1_1) ∧ w'.cell? ⟨gb224, 2, none⟩ = some (.int .i64 a1_2) ∧ w'.cell? (ad227.add ((x9_1).toNat * 3)) = some (.int .i64 ((rd_T50 l0 x9_1).f0)) ∧ w'.cell? ⟨(ad227.add ((x9_1).toNat * 3)).block, (ad227.add ((x9_1).toNat * 3)).off + 1, none⟩ = some (.int .u64 ((rd_T50 l0 x9_1).f1)) ∧ w'.cell? ⟨(ad227.add ((x9_1).toNat * 3)).block, (ad227.add ((x9_1).toNat * 3)).off + 2, none⟩ = some (.int .i64 ((rd_T50 l0 x9_1).f2))) (ds := []) (mk_ 0 16) (by kernel_rfl) rfl rfl ⟨(blk_cell BK224.out 0).trans rfl, (blk_cell BK224.out 1).trans rfl, (blk_cell BK224.out 2).trans rfl, ((HB.out.cell (World.block_lt_of_cell? w _ hw227_0)).trans hw227_0), ((HB.out.cell (World.block_lt_of_cell? w _ hw227_1)).trans hw227_1), ((HB.out.cell (World.block_lt_of_cell? w _ hw227_2)).trans hw227_2)⟩ (fun hHeld => ?_); refine with_tabW batch_Change_55.tab8 batch_Change_55.bits8 (fun HT_ HW_ => ?_)
       generalize wr.drew = w19 at BK224 HB hx227_0 hx227_1 hx227_2 hHeld ⊢
       refine pv_ 0 35 (mk_ 1 15) HT_ ?_
       refine pv_ 1 36 (mk_ 2 14) HT_ ?_
       refine pv_ 2 37 (mk_ 3 13) HT_ ?_
       refine pv_ 3 38 (mk_ 4 12) HT_ ?_
       refine pv_ 4 39 (mk_ 5 11) HT_ ?_
       refine pv_ 5 40 (mk_ 6 10) HT_ ?_
       refine pv_ 6 41 (mk_ 7 9) HT_ ?_
       refine pv_ 7 42 (mk_ 8 8) HT_ ?_
       refine pv_ 8 43 (mk_ 9 7) HT_ ?_
       refine tv_ 9 44 (mk_ 10 6) HT_ HW_ hHeld (hy := by rintro w' ⟨s0, s1, s2, s3, s4, s5⟩; go_simp; with_reducible rfl) (h := ?_)
       refine tv_ 10 45 (mk_ 11 5) HT_ HW_ hHeld (hy := by rintro w' ⟨s0, s1, s2, s3, s4, s5⟩; go_simp; with_reducible rfl) (h := ?_)
       refine one_ (i := 11) (N := some 46) (mk_ 12 4) rfl rfl (one_of HT_.out (by kernel_rfl)) (by decide) (fun K hK => ?_)
       refine goesTT_ Try.func53 (by kernel_rfl) rfl #[.agg #[.int .i64 ((rd_T50 l0 x9_1).f0), .int .u64 ((rd_T50 l0 x9_1).f1), .int .i64 ((rd_T50 l0 x9_1).f2)], .agg #[.int .i64 a1_0, .int .u64 a1_1, .int .i64 a1_2]] (by rfl) rfl rfl rfl (by (try simp only [List.map_toArray, List.map_cons, List.map_nil]); first | done | rfl | (simp only [List.length_drop, List.length_take]; rfl)) ?_
       with_reducible refine (batch_order.calls k1 ((rd_T50 l0 x9_1).f0) ((rd_T50 l0 x9_1).f1) ((rd_T50 l0 x9_1).f2) a1_0 a1_1 a1_2 t228 _ A18.out).mono ?_
       rintro e w20 ⟨rfl, hb⟩
       refine ⟨_, rfl, ?_⟩
       have n0_ := Aside0.mk (blk_below (g := gb224) (o := .cells #[.int .i64 a1_0, .int .u64 a1_1, .int .i64 a1_2] 50 (0, 0)) (by (with_reducible repeat (first | refine blk_drewN ?_ _ | refine blk_drew ?_ | refine blk_alloc ?_ _)); exact BK224.out) hb)
       have n1_ := Aside0.mk (below_step (by repeat (first | (with_reducible first | exact HB.out | apply below_alloc | apply pw_below_drewN | apply below_drew1 | refine below_set ?_ GE224.out) | exact HB.out)) hb)
       clear BK224
       clear HB
       have BK224 := n0_
       have HB := n1_
       clear n0_ n1_
       (try clear hb)
       (try clear hb2)
       (try clear hk)
       (try clear hi)
       refine hK.out _ _ ⟨(blk_cell BK224.out 0).trans rfl, (blk_cell BK224.out 1).trans rfl, (blk_cell BK224.out 2).trans rfl, ((HB.out.cell (World.block_lt_of_cell? w _ hw227_0)).trans hw227_0), ((HB.out.cell (World.block_lt_of_cell? w _ hw227_1)).trans hw227_1), ((HB.out.cell (World.block_lt_of_cell? w _ hw227_2)).trans hw227_2)⟩ (fun hHeld => ?_)
       clear hK K
       refine norm_ (a' := ?_) ?_ ?_
       rotate_left
       ·show Act.put _ (some 46) _ = _
        simp only [Act.put, List.setIfInBounds_toArray, List.set_cons_zero, List.set_cons_succ, i64_w, i32_w]
        rfl
       refine pv_ 12 47 (mk_ 13 3) HT_ ?_
       refine pv_ 13 48 (mk_ 14 2) HT_ ?_
       refine pv_ 14 6 (mk_ 15 1) HT_ ?_
       refine pv_ 15 7 (mk_ 16 0) HT_ ?_
       refine done_ (done_of HT_.out (by kernel_rfl)) ?_
       try go_wp2
       go_ret2
       exact ⟨by first | rfl | (simp [errW_none, errW_some] <;> rfl) | (simp [*, errW_none, errW_some] <;> rfl), by repeat (first | (with_reducible first | exact HB.out | apply below_alloc | apply pw_below_drewN | apply below_drew1 | refine below_set ?_ GE224.out) | exact HB.out)⟩
      ·rw [if_neg c17] at H
       exact absurd H (by simp)
     ·rw [if_neg c16] at H
      exact absurd H (by simp)
    ·rw [if_neg c15] at H
     have c15b0 : decide (x9_1 < (l0.length : Int)) = false := decide_eq_false c15
     clear c15
     simp only [Option.some.injEq, Prod.mk.injEq] at H
     obtain ⟨rfl, rfl⟩ := H
     try go_wp2
     have n0_ := Aside0.mk (blk_drew BK224.out)
     have n1_ := Aside0.mk (below_drew1 HB.out)
     clear BK224
     clear HB
     have BK224 := n0_
     have HB := n1_
     clear n0_ n1_
     refine start_ (n := 16) (S := fun w' => True) (ds := []) (mk_ 0 16) (by kernel_rfl) rfl rfl trivial (fun hHeld => ?_); refine with_tabW batch_Change_55.tab8 batch_Change_55.bits8 (fun HT_ HW_ => ?_)
     generalize wr.drew = w21 at BK224 HB hHeld ⊢
     refine pv_ 0 35 (mk_ 1 15) HT_ ?_
     refine pv_ 1 36 (mk_ 2 14) HT_ ?_
     refine pv_ 2 37 (mk_ 3 13) HT_ ?_
     refine pv_ 3 38 (mk_ 4 12) HT_ ?_
     refine pv_ 4 39 (mk_ 5 11) HT_ ?_
     refine pu_ 5 40 (mk_ 6 10) HT_ ?_
     refine pu_ 6 41 (mk_ 7 9) HT_ ?_
     refine pu_ 7 42 (mk_ 8 8) HT_ ?_
     refine pu_ 8 43 (mk_ 9 7) HT_ ?_
     refine pu_ 9 44 (mk_ 10 6) HT_ ?_
     refine pu_ 10 45 (mk_ 11 5) HT_ ?_
     refine pu_ 11 46 (mk_ 12 4) HT_ ?_
     refine pu_ 12 47 (mk_ 13 3) HT_ ?_
     refine pv_ 13 48 (mk_ 14 2) HT_ ?_
     refine pv_ 14 6 (mk_ 15 1) HT_ ?_
     refine pv_ 15 7 (mk_ 16 0) HT_ ?_
     refine done_ (done_of HT_.out (by kernel_rfl)) ?_
     try go_wp2
     go_ret2
     exact ⟨by first | rfl | (simp [errW_none, errW_some] <;> rfl) | (simp [*, errW_none, errW_some] <;> rfl), by repeat (first | (with_reducible first | exact HB.out | apply below_alloc | apply pw_below_drewN | apply below_drew1 | refine below_set ?_ GE224.out) | exact HB.out)⟩
end Go.Proofs.Ytgeldmhgbnamcaa.P
end
section
-- Printed by the session's own turn of the print (wip/tools/print2.sh): some callees are proved by hand.
namespace Go.Proofs.Ytgeldmhgbnamcaa.P
open Go.RowKit Go.Proofs.YtgeldmhgbnamcaaW.PrintWords Go.Proofs.YtgeldmhgbnamcaaW.PrintLast Go.Proofs.YtgeldmhgbnamcaaW.PrintMore
attribute [local go_sem] max2_int min2_int max_two min_two max_three min_three max_four min_four   -- for this text's walks alone
set_option linter.unusedVariables false
set_option linter.unusedSimpArgs false
/-! ### batch_Of: function 23 -/
def batch_Of.f (k : Nat) (l0 : List (S50)) (a1 : Int) (a2 : Int) : Option (Int) := (batch_Change_55.f k l0 a1 a2 0).bind fun bt229 => (if bt229.2 = true then (if 0 ≤ bt229.1 then (if bt229.1 < (l0.length : Int) then (some ((rd_T50 l0 bt229.1).f2)) else (none)) else (none)) else (some 0))
theorem batch_Of.mono : ∀ a0 a1 a2 k, LeO (batch_Of.f k a0 a1 a2) (batch_Of.f (k + 1) a0 a1 a2) := by
 intro a0 a1 a2 k
 unfold batch_Of.f
 repeat' first
   | (with_reducible exact batch_Change_55.mono _ _ _ _ _)
   | (with_reducible exact LeO.refl _)
   | (with_reducible exact LeO.none _)
   | (with_reducible refine LeO.ite ?_ ?_)
   | (with_reducible refine LeO.bind ?_ (fun _ => ?_))
   | exact batch_Change_55.mono _ _ _ _ _
   | exact LeO.none _
   | refine LeO.ite ?_ ?_
   | refine LeO.bind ?_ (fun _ => ?_)
set_option maxHeartbeats 8000000 in
set_option maxRecDepth 100000 in
theorem batch_Of.calls (k : Nat) (A0 : Option Addr) (c0 : Nat) (l0 : List (S50)) (a1 : Int) (a2 : Int) (r : Int) (w : World) (hr0 : Kd.C k50 w A0 l0.length l0) (hc0 : l0.length ≤ c0) (h : batch_Of.f k l0 a1 a2 = some r) :
  Calls Try.prog 23 #[.slice A0 l0.length c0, .int .i64 a1, .int .u64 a2] w fun e w' => e = .returned (.int .i64 r) ∧ Below w.heap.size w w' := by
 have hu50 := Try.underlying50
 have HR0 := Aside0.mk hr0
 have HC0 := Aside0.mk hc0
 clear hr0 hc0
 have HB := Aside0.mk (Below.refl w.heap.size w)
 have H : ((batch_Change_55.f k l0 a1 a2 0).bind fun bt229 => (if bt229.2 = true then (if 0 ≤ bt229.1 then (if bt229.1 < (l0.length : Int) then (some ((rd_T50 l0 bt229.1).f2)) else (none)) else (none)) else (some 0))) = some r := h
 clear h
 replace H := Option.bind_eq_some_iff.mp H
 obtain ⟨⟨t229, t230⟩, A40, H⟩ := H
 replace H : (if t230 = true then (if 0 ≤ t229 then (if t229 < (l0.length : Int) then (some ((rd_T50 l0 t229).f2)) else (none)) else (none)) else (some 0)) = some r := H
 have A4 := Aside0.mk A40
 clear A40
 by_cases c5 : t230 = true
 ·subst c5
  have H1 : (if 0 ≤ t229 then (if t229 < (l0.length : Int) then (some ((rd_T50 l0 t229).f2)) else (none)) else (none)) = some r := by rw [if_pos rfl] at H; exact H
  clear H
  have H := H1
  clear H1
  by_cases c6 : 0 ≤ t229
  ·rw [if_pos c6] at H
   have c6b0 : decide (0 ≤ t229) = true := decide_eq_true c6
   clear c6
   by_cases c7 : t229 < (l0.length : Int)
   ·rw [if_pos c7] at H
    have c7b0 : decide (t229 < (l0.length : Int)) = true := decide_eq_true c7
    clear c7
    obtain rfl := Option.some.inj H
    go_enter Try.func23, Try.ntmps23
    go_wp2_with (first | ((with_reducible refine gate_callee (f := 55) rfl ?_); refine gl (some 14) Try.func55 #[.slice A0 l0.length c0, .agg #[.int .i64 a1, .int .u64 a2, .int .i64 0], .func (.func 53) #[] #[]] ?_; (with_reducible refine (batch_Change_55.calls k _ _ l0 a1 a2 0  t229 true _ ?side1 ?side2 A4.out).mono ?_); (case side1 => exact cn HR0.out); (case side2 => exact HC0.out); rintro e w8 ⟨rfl, hb⟩; refine ⟨_, rfl, ?_⟩; replace HB := bb HB hb; (try clear hb); have p231 : 0 ≤ (t229 : Int) := of_decide_eq_true (by assumption); have q231 : t229 < (l0.length : Int) := of_decide_eq_true (by assumption); obtain ⟨ad231, e231, hx231_0, hx231_1, hx231_2⟩ := at_T50 HR0.out t229 p231 q231; cases e231; replace hx231_0 := (HB.out.cell (World.block_lt_of_cell? w _ hx231_0)).trans hx231_0; replace hx231_1 := (HB.out.cell (World.block_lt_of_cell? w _ hx231_1)).trans hx231_1; replace hx231_2 := (HB.out.cell (World.block_lt_of_cell? w _ hx231_2)).trans hx231_2; replace p231 := eq_true p231; replace q231 := eq_true q231))
    go_ret
    exact ⟨by first | rfl | (simp [errW_none, errW_some] <;> rfl) | (simp [*, errW_none, errW_some] <;> rfl), by repeat (first | (with_reducible first | exact HB.out | apply below_alloc | apply pw_below_drewN | apply below_drew1) | exact HB.out)⟩
   ·rw [if_neg c7] at H
    exact absurd H (by simp)
  ·rw [if_neg c6] at H
   exact absurd H (by simp)
 ·replace c5 := Bool.eq_false_iff.mpr c5
  subst c5
  have H1 : (some 0) = some r := by rw [if_neg (show ¬ (false = true) by decide)] at H; exact H
  clear H
  have H := H1
  clear H1
  obtain rfl := Option.some.inj H
  go_enter Try.func23, Try.ntmps23
  go_wp2_with (first | ((with_reducible refine gate_callee (f := 55) rfl ?_); refine gl (some 14) Try.func55 #[.slice A0 l0.length c0, .agg #[.int .i64 a1, .int .u64 a2, .int .i64 0], .func (.func 53) #[] #[]] ?_; (with_reducible refine (batch_Change_55.calls k _ _ l0 a1 a2 0  t229 false _ ?side1 ?side2 A4.out).mono ?_); (case side1 => exact cn HR0.out); (case side2 => exact HC0.out); rintro e w9 ⟨rfl, hb⟩; refine ⟨_, rfl, ?_⟩; replace HB := bb HB hb; (try clear hb)))
  go_ret
  exact ⟨by first | rfl | (simp [errW_none, errW_some] <;> rfl) | (simp [*, errW_none, errW_some] <;> rfl), by repeat (first | (with_reducible first | exact HB.out | apply below_alloc | apply pw_below_drewN | apply below_drew1) | exact HB.out)⟩
end Go.Proofs.Ytgeldmhgbnamcaa.P
end
section
-- Printed by the session's own turn of the print (wip/tools/print2.sh): some callees are proved by hand.
namespace Go.Proofs.Ytgeldmhgbnamcaa.P
open Go.RowKit Go.Proofs.YtgeldmhgbnamcaaW.PrintWords Go.Proofs.YtgeldmhgbnamcaaW.PrintLast Go.Proofs.YtgeldmhgbnamcaaW.PrintMore
attribute [local go_sem] max2_int min2_int max_two min_two max_three min_three max_four min_four   -- for this text's walks alone
set_option linter.unusedVariables false
set_option linter.unusedSimpArgs false
theorem eqA40 (d : Nat) (w : World) (x0 y0 : Int) (x1 y1 : Int) (x2 y2 : Int) :
  (Op.equalIn (d + 2) 40 (.agg #[.int .i64 x0, .int .u64 x1, .int .i64 x2]) (.agg #[.int .i64 y0, .int .u64 y1, .int .i64 y2])).run Try.prog w = .ok (x0 == y0 && (x1 == y1 && (x2 == y2))) w := by
 refine eqA_of Try.underlying40 (by kernel_rfl) ?_
 refine eqf_cons (by rfl) (by go_simp; rfl) (by go_simp; rfl) (by go_simp) ?_
 refine eqf_cons (by rfl) (by go_simp; rfl) (by go_simp; rfl) (by go_simp) ?_
 exact eqf_last (by rfl) (by go_simp; rfl) (by go_simp; rfl) (by go_simp)
end Go.Proofs.Ytgeldmhgbnamcaa.P
end
section
-- Printed by the session's own turn of the print (wip/tools/print2.sh): some callees are proved by hand.
namespace Go.Proofs.Ytgeldmhgbnamcaa.P
open Go.RowKit Go.Proofs.YtgeldmhgbnamcaaW.PrintWords Go.Proofs.YtgeldmhgbnamcaaW.PrintLast Go.Proofs.YtgeldmhgbnamcaaW.PrintMore
attribute [local go_sem] max2_int min2_int max_two min_two max_three min_three max_four min_four   -- for this text's walks alone
set_option linter.unusedVariables false
set_option linter.unusedSimpArgs false
/-! ### marchlandref03_within: function 51 -/
def marchlandref03_within.f (a0 : Int) : Option (Bool) := if a0 ≥ (-576460752303423488) then (some (decide (a0 ≤ 576460752303423488))) else (some false)
set_option maxHeartbeats 8000000 in
set_option maxRecDepth 100000 in
theorem marchlandref03_within.calls (a0 : Int) (r : Bool) (w : World) (h : marchlandref03_within.f a0 = some r) :
  Calls Try.prog 51 #[.int .i64 a0] w fun e w' => e = .returned (.bool r) ∧ Drawn0 w w' := by
 have H : (if a0 ≥ (-576460752303423488) then (some (decide (a0 ≤ 576460752303423488))) else (some false)) = some r := h
 clear h
 by_cases c2 : a0 ≥ (-576460752303423488)
 ·rw [if_pos c2] at H
  have c2b0 : decide ((-576460752303423488) ≤ a0) = true := decide_eq_true c2
  clear c2
  obtain rfl := Option.some.inj H
  go_enter Try.func51, Try.ntmps51
  go_wp2
  go_ret
  exact ⟨by first | rfl | (simp; done) | (simp [*]; done), by repeat (first | exact Drawn0.refl _ | apply Drawn0.step)⟩
 ·rw [if_neg c2] at H
  have c2b0 : decide ((-576460752303423488) ≤ a0) = false := decide_eq_false c2
  clear c2
  obtain rfl := Option.some.inj H
  go_enter Try.func51, Try.ntmps51
  go_wp2
  go_ret
  exact ⟨by first | rfl | (simp; done) | (simp [*]; done), by repeat (first | exact Drawn0.refl _ | apply Drawn0.step)⟩
end Go.Proofs.Ytgeldmhgbnamcaa.P
end
section
-- Printed by the session's own turn of the print (wip/tools/print2.sh): some callees are proved by hand.
namespace Go.Proofs.Ytgeldmhgbnamcaa.P
open Go.RowKit Go.Proofs.YtgeldmhgbnamcaaW.PrintWords Go.Proofs.YtgeldmhgbnamcaaW.PrintLast Go.Proofs.YtgeldmhgbnamcaaW.PrintMore
attribute [local go_sem] max2_int min2_int max_two min_two max_three min_three max_four min_four   -- for this text's walks alone
set_option linter.unusedVariables false
set_option linter.unusedSimpArgs false
/-! ### marchlandref03_before: function 54 -/
def marchlandref03_before.f (a0_0 : Int) (a0_1 : Int) (a0_2 : Int) (a1_0 : Int) (a1_1 : Int) (a1_2 : Int) : Option (Bool) := if a0_0 < a1_0 then (some true) else (if a0_0 = a1_0 then (some (decide (a0_1 < a1_1))) else (some false))
set_option maxHeartbeats 8000000 in
set_option maxRecDepth 100000 in
theorem marchlandref03_before.calls (a0_0 : Int) (a0_1 : Int) (a0_2 : Int) (a1_0 : Int) (a1_1 : Int) (a1_2 : Int) (r : Bool) (w : World) (h : marchlandref03_before.f a0_0 a0_1 a0_2 a1_0 a1_1 a1_2 = some r) :
  Calls Try.prog 54 #[.agg #[.int .i64 a0_0, .int .u64 a0_1, .int .i64 a0_2], .agg #[.int .i64 a1_0, .int .u64 a1_1, .int .i64 a1_2]] w fun e w' => e = .returned (.bool r) ∧ Below w.heap.size w w' := by
 have hu40 := Try.underlying40
 have HB := Aside0.mk (Below.refl w.heap.size w)
 have H : (if a0_0 < a1_0 then (some true) else (if a0_0 = a1_0 then (some (decide (a0_1 < a1_1))) else (some false))) = some r := h
 clear h
 by_cases c3 : a0_0 < a1_0
 ·rw [if_pos c3] at H
  have c3b0 : decide (a0_0 < a1_0) = true := decide_eq_true c3
  clear c3
  obtain rfl := Option.some.inj H
  go_enter Try.func54, Try.ntmps54
  go_wp2_with (first | ((with_reducible refine gate_dst (N := 2) rfl ?_); refine box_event ?hg (N := 2) ?hd (cs := #[.int .i64 a0_0, .int .u64 a0_1, .int .i64 a0_2]) (t := 40) ?hr ?_; (case hd => rfl); (case hg => rfl); (case hr => first | (go_simp; done) | (go_simp; rfl)); intro gb183 hg w4 hbox hb; have n1_ := Aside0.mk (hbox); have n2_ := Aside0.mk ((by rw [hg]; exact (below_size (bn HB)) : w.heap.size ≤ gb183)); have n3_ := Aside0.mk ((by rw [hg]; exact (below_size (bn HB)) : w.heap.size ≤ gb183)); replace HB := bb HB hb; have BK183 := n1_; have GW183 := n2_; have GE183 := n3_; clear n1_ n2_ n3_; clear hb hbox hg) | ((with_reducible refine gate_dst (N := 3) rfl ?_); refine box_event ?hg (N := 3) ?hd (cs := #[.int .i64 a1_0, .int .u64 a1_1, .int .i64 a1_2]) (t := 40) ?hr ?_; (case hd => rfl); (case hg => rfl); (case hr => first | (go_simp; done) | (go_simp; rfl)); intro gb184 hg w5 hbox hb; have n0_ := Aside0.mk (blk_below (g := gb183) (o := .cells #[.int .i64 a0_0, .int .u64 a0_1, .int .i64 a0_2] 40 (0, 0)) (by (with_reducible repeat (first | refine blk_drewN ?_ _ | refine blk_drew ?_ | refine blk_alloc ?_ _)); exact BK183.out) hb); have n1_ := Aside0.mk (below_step (by repeat (first | (with_reducible first | exact HB.out | apply below_alloc | apply pw_below_drewN | apply below_drew1 | refine below_set ?_ GE183.out) | exact HB.out)) hb); have n2_ := Aside0.mk (hbox); have n3_ := Aside0.mk ((by rw [hg]; exact (below_size (by repeat (first | (with_reducible first | exact HB.out | apply below_alloc | apply pw_below_drewN | apply below_drew1 | refine below_set ?_ GE183.out) | exact HB.out))) : w.heap.size ≤ gb184)); have n4_ := Aside0.mk ((by rw [hg]; exact (below_size (by repeat (first | (with_reducible first | exact HB.out | apply below_alloc | apply pw_below_drewN | apply below_drew1 | refine below_set ?_ GE183.out) | exact HB.out))) : w.heap.size ≤ gb184)); have n5_ := Aside0.mk ((by rw [hg]; exact Nat.ne_of_lt (blk_lt (g := gb183) (o := .cells #[.int .i64 a0_0, .int .u64 a0_1, .int .i64 a0_2] 40 (0, 0)) (by (with_reducible repeat (first | refine blk_drewN ?_ _ | refine blk_drew ?_ | refine blk_alloc ?_ _)); exact BK183.out)) : gb183 ≠ gb184)); have n6_ := Aside0.mk ((by rw [hg]; exact Nat.ne_of_gt (blk_lt (g := gb183) (o := .cells #[.int .i64 a0_0, .int .u64 a0_1, .int .i64 a0_2] 40 (0, 0)) (by (with_reducible repeat (first | refine blk_drewN ?_ _ | refine blk_drew ?_ | refine blk_alloc ?_ _)); exact BK183.out)) : gb184 ≠ gb183)); clear BK183; clear HB; have BK183 := n0_; have HB := n1_; have BK184 := n2_; have GW184 := n3_; have GE184 := n4_; have NB183_184 := n5_; have NB184_183 := n6_; clear n0_ n1_ n2_ n3_ n4_ n5_ n6_; clear hb hbox hg; have hnb6 := NB183_184.out; have hnc6 := NB184_183.out; have hcz7_0 : w5.cell? ⟨gb183, 0, none⟩ = some (.int .i64 a0_0) := (blk_cell BK183.out 0).trans rfl; have hcz7_1 : w5.cell? ⟨gb183, 1, none⟩ = some (.int .u64 a0_1) := (blk_cell BK183.out 1).trans rfl; have hcz7_2 : w5.cell? ⟨gb183, 2, none⟩ = some (.int .i64 a0_2) := (blk_cell BK183.out 2).trans rfl; have hfz7_0 := blk_frozen BK183.out 0; have hfz7_1 := blk_frozen BK183.out 1; have hfz7_2 := blk_frozen BK183.out 2; have hcz8_0 : w5.cell? ⟨gb184, 0, none⟩ = some (.int .i64 a1_0) := (blk_cell BK184.out 0).trans rfl; have hcz8_1 : w5.cell? ⟨gb184, 1, none⟩ = some (.int .u64 a1_1) := (blk_cell BK184.out 1).trans rfl; have hcz8_2 : w5.cell? ⟨gb184, 2, none⟩ = some (.int .i64 a1_2) := (blk_cell BK184.out 2).trans rfl; have hfz8_0 := blk_frozen BK184.out 0; have hfz8_1 := blk_frozen BK184.out 1; have hfz8_2 := blk_frozen BK184.out 2))
  go_ret
  exact ⟨by first | rfl | (simp [errW_none, errW_some] <;> rfl) | (simp [*, errW_none, errW_some] <;> rfl), by repeat (first | (with_reducible first | exact HB.out | apply below_alloc | apply pw_below_drewN | apply below_drew1 | refine below_set ?_ GE183.out | refine below_set ?_ GE184.out) | exact HB.out)⟩
 ·rw [if_neg c3] at H
  have c3b0 : decide (a0_0 < a1_0) = false := decide_eq_false c3
  clear c3
  by_cases c9 : a0_0 = a1_0
  ·rw [if_pos c9] at H
   have c9b0 : (a0_0 == a1_0) = true := beq_iff_eq.mpr c9
   have c9b1 : (a0_0 != a1_0) = false := bne_eq_false_iff_eq.mpr c9
   clear c9
   obtain rfl := Option.some.inj H
   go_enter Try.func54, Try.ntmps54
   go_wp2_with (first | ((with_reducible refine gate_dst (N := 2) rfl ?_); refine box_event ?hg (N := 2) ?hd (cs := #[.int .i64 a0_0, .int .u64 a0_1, .int .i64 a0_2]) (t := 40) ?hr ?_; (case hd => rfl); (case hg => rfl); (case hr => first | (go_simp; done) | (go_simp; rfl)); intro gb183 hg w10 hbox hb; have n1_ := Aside0.mk (hbox); have n2_ := Aside0.mk ((by rw [hg]; exact (below_size (bn HB)) : w.heap.size ≤ gb183)); have n3_ := Aside0.mk ((by rw [hg]; exact (below_size (bn HB)) : w.heap.size ≤ gb183)); replace HB := bb HB hb; have BK183 := n1_; have GW183 := n2_; have GE183 := n3_; clear n1_ n2_ n3_; clear hb hbox hg) | ((with_reducible refine gate_dst (N := 3) rfl ?_); refine box_event ?hg (N := 3) ?hd (cs := #[.int .i64 a1_0, .int .u64 a1_1, .int .i64 a1_2]) (t := 40) ?hr ?_; (case hd => rfl); (case hg => rfl); (case hr => first | (go_simp; done) | (go_simp; rfl)); intro gb184 hg w11 hbox hb; have n0_ := Aside0.mk (blk_below (g := gb183) (o := .cells #[.int .i64 a0_0, .int .u64 a0_1, .int .i64 a0_2] 40 (0, 0)) (by (with_reducible repeat (first | refine blk_drewN ?_ _ | refine blk_drew ?_ | refine blk_alloc ?_ _)); exact BK183.out) hb); have n1_ := Aside0.mk (below_step (by repeat (first | (with_reducible first | exact HB.out | apply below_alloc | apply pw_below_drewN | apply below_drew1 | refine below_set ?_ GE183.out) | exact HB.out)) hb); have n2_ := Aside0.mk (hbox); have n3_ := Aside0.mk ((by rw [hg]; exact (below_size (by repeat (first | (with_reducible first | exact HB.out | apply below_alloc | apply pw_below_drewN | apply below_drew1 | refine below_set ?_ GE183.out) | exact HB.out))) : w.heap.size ≤ gb184)); have n4_ := Aside0.mk ((by rw [hg]; exact (below_size (by repeat (first | (with_reducible first | exact HB.out | apply below_alloc | apply pw_below_drewN | apply below_drew1 | refine below_set ?_ GE183.out) | exact HB.out))) : w.heap.size ≤ gb184)); have n5_ := Aside0.mk ((by rw [hg]; exact Nat.ne_of_lt (blk_lt (g := gb183) (o := .cells #[.int .i64 a0_0, .int .u64 a0_1, .int .i64 a0_2] 40 (0, 0)) (by (with_reducible repeat (first | refine blk_drewN ?_ _ | refine blk_drew ?_ | refine blk_alloc ?_ _)); exact BK183.out)) : gb183 ≠ gb184)); have n6_ := Aside0.mk ((by rw [hg]; exact Nat.ne_of_gt (blk_lt (g := gb183) (o := .cells #[.int .i64 a0_0, .int .u64 a0_1, .int .i64 a0_2] 40 (0, 0)) (by (with_reducible repeat (first | refine blk_drewN ?_ _ | refine blk_drew ?_ | refine blk_alloc ?_ _)); exact BK183.out)) : gb184 ≠ gb183)); clear BK183; clear HB; have BK183 := n0_; have HB := n1_; have BK184 := n2_; have GW184 := n3_; have GE184 := n4_; have NB183_184 := n5_; have NB184_183 := n6_; clear n0_ n1_ n2_ n3_ n4_ n5_ n6_; clear hb hbox hg; have hnb12 := NB183_184.out; have hnc12 := NB184_183.out; have hcz13_0 : w11.cell? ⟨gb183, 0, none⟩ = some (.int .i64 a0_0) := (blk_cell BK183.out 0).trans rfl; have hcz13_1 : w11.cell? ⟨gb183, 1, none⟩ = some (.int .u64 a0_1) := (blk_cell BK183.out 1).trans rfl; have hcz13_2 : w11.cell? ⟨gb183, 2, none⟩ = some (.int .i64 a0_2) := (blk_cell BK183.out 2).trans rfl; have hfz13_0 := blk_frozen BK183.out 0; have hfz13_1 := blk_frozen BK183.out 1; have hfz13_2 := blk_frozen BK183.out 2; have hcz14_0 : w11.cell? ⟨gb184, 0, none⟩ = some (.int .i64 a1_0) := (blk_cell BK184.out 0).trans rfl; have hcz14_1 : w11.cell? ⟨gb184, 1, none⟩ = some (.int .u64 a1_1) := (blk_cell BK184.out 1).trans rfl; have hcz14_2 : w11.cell? ⟨gb184, 2, none⟩ = some (.int .i64 a1_2) := (blk_cell BK184.out 2).trans rfl; have hfz14_0 := blk_frozen BK184.out 0; have hfz14_1 := blk_frozen BK184.out 1; have hfz14_2 := blk_frozen BK184.out 2))
   go_ret
   exact ⟨by first | rfl | (simp [errW_none, errW_some] <;> rfl) | (simp [*, errW_none, errW_some] <;> rfl), by repeat (first | (with_reducible first | exact HB.out | apply below_alloc | apply pw_below_drewN | apply below_drew1 | refine below_set ?_ GE183.out | refine below_set ?_ GE184.out) | exact HB.out)⟩
  ·rw [if_neg c9] at H
   have c9b0 : (a0_0 == a1_0) = false := beq_eq_false_iff_ne.mpr c9
   have c9b1 : (a0_0 != a1_0) = true := bne_iff_ne.mpr c9
   obtain rfl := Option.some.inj H
   go_enter Try.func54, Try.ntmps54
   go_wp2_with (first | ((with_reducible refine gate_dst (N := 2) rfl ?_); refine box_event ?hg (N := 2) ?hd (cs := #[.int .i64 a0_0, .int .u64 a0_1, .int .i64 a0_2]) (t := 40) ?hr ?_; (case hd => rfl); (case hg => rfl); (case hr => first | (go_simp; done) | (go_simp; rfl)); intro gb183 hg w15 hbox hb; have n1_ := Aside0.mk (hbox); have n2_ := Aside0.mk ((by rw [hg]; exact (below_size (bn HB)) : w.heap.size ≤ gb183)); have n3_ := Aside0.mk ((by rw [hg]; exact (below_size (bn HB)) : w.heap.size ≤ gb183)); replace HB := bb HB hb; have BK183 := n1_; have GW183 := n2_; have GE183 := n3_; clear n1_ n2_ n3_; clear hb hbox hg) | ((with_reducible refine gate_dst (N := 3) rfl ?_); refine box_event ?hg (N := 3) ?hd (cs := #[.int .i64 a1_0, .int .u64 a1_1, .int .i64 a1_2]) (t := 40) ?hr ?_; (case hd => rfl); (case hg => rfl); (case hr => first | (go_simp; done) | (go_simp; rfl)); intro gb184 hg w16 hbox hb; have n0_ := Aside0.mk (blk_below (g := gb183) (o := .cells #[.int .i64 a0_0, .int .u64 a0_1, .int .i64 a0_2] 40 (0, 0)) (by (with_reducible repeat (first | refine blk_drewN ?_ _ | refine blk_drew ?_ | refine blk_alloc ?_ _)); exact BK183.out) hb); have n1_ := Aside0.mk (below_step (by repeat (first | (with_reducible first | exact HB.out | apply below_alloc | apply pw_below_drewN | apply below_drew1 | refine below_set ?_ GE183.out) | exact HB.out)) hb); have n2_ := Aside0.mk (hbox); have n3_ := Aside0.mk ((by rw [hg]; exact (below_size (by repeat (first | (with_reducible first | exact HB.out | apply below_alloc | apply pw_below_drewN | apply below_drew1 | refine below_set ?_ GE183.out) | exact HB.out))) : w.heap.size ≤ gb184)); have n4_ := Aside0.mk ((by rw [hg]; exact (below_size (by repeat (first | (with_reducible first | exact HB.out | apply below_alloc | apply pw_below_drewN | apply below_drew1 | refine below_set ?_ GE183.out) | exact HB.out))) : w.heap.size ≤ gb184)); have n5_ := Aside0.mk ((by rw [hg]; exact Nat.ne_of_lt (blk_lt (g := gb183) (o := .cells #[.int .i64 a0_0, .int .u64 a0_1, .int .i64 a0_2] 40 (0, 0)) (by (with_reducible repeat (first | refine blk_drewN ?_ _ | refine blk_drew ?_ | refine blk_alloc ?_ _)); exact BK183.out)) : gb183 ≠ gb184)); have n6_ := Aside0.mk ((by rw [hg]; exact Nat.ne_of_gt (blk_lt (g := gb183) (o := .cells #[.int .i64 a0_0, .int .u64 a0_1, .int .i64 a0_2] 40 (0, 0)) (by (with_reducible repeat (first | refine blk_drewN ?_ _ | refine blk_drew ?_ | refine blk_alloc ?_ _)); exact BK183.out)) : gb184 ≠ gb183)); clear BK183; clear HB; have BK183 := n0_; have HB := n1_; have BK184 := n2_; have GW184 := n3_; have GE184 := n4_; have NB183_184 := n5_; have NB184_183 := n6_; clear n0_ n1_ n2_ n3_ n4_ n5_ n6_; clear hb hbox hg; have hnb17 := NB183_184.out; have hnc17 := NB184_183.out; have hcz18_0 : w16.cell? ⟨gb183, 0, none⟩ = some (.int .i64 a0_0) := (blk_cell BK183.out 0).trans rfl; have hcz18_1 : w16.cell? ⟨gb183, 1, none⟩ = some (.int .u64 a0_1) := (blk_cell BK183.out 1).trans rfl; have hcz18_2 : w16.cell? ⟨gb183, 2, none⟩ = some (.int .i64 a0_2) := (blk_cell BK183.out 2).trans rfl; have hfz18_0 := blk_frozen BK183.out 0; have hfz18_1 := blk_frozen BK183.out 1; have hfz18_2 := blk_frozen BK183.out 2; have hcz19_0 : w16.cell? ⟨gb184, 0, none⟩ = some (.int .i64 a1_0) := (blk_cell BK184.out 0).trans rfl; have hcz19_1 : w16.cell? ⟨gb184, 1, none⟩ = some (.int .u64 a1_1) := (blk_cell BK184.out 1).trans rfl; have hcz19_2 : w16.cell? ⟨gb184, 2, none⟩ = some (.int .i64 a1_2) := (blk_cell BK184.out 2).trans rfl; have hfz19_0 := blk_frozen BK184.out 0; have hfz19_1 := blk_frozen BK184.out 1; have hfz19_2 := blk_frozen BK184.out 2))
   go_ret
   exact ⟨by first | rfl | (simp [errW_none, errW_some] <;> rfl) | (simp [*, errW_none, errW_some] <;> rfl), by repeat (first | (with_reducible first | exact HB.out | apply below_alloc | apply pw_below_drewN | apply below_drew1 | refine below_set ?_ GE183.out | refine below_set ?_ GE184.out) | exact HB.out)⟩
end Go.Proofs.Ytgeldmhgbnamcaa.P
end
