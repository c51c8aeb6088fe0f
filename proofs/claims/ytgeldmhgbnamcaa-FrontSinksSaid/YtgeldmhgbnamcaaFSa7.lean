/- Walks and laws of several statements of this seat, joined into one text; no condition. -/
import Derived.Test.YtgeldmhgbnamcaaProg
import Derived.Below
import Derived.Deep.Draws
import Derived.Deep.AppendLies
import Derived.Maps.AppendAt
import Derived.OwnWalk
import Derived.Laws.BytesArg
import Derived.Laws.MakeOwn
import Derived.Laws.OwnMore
import Derived.Deep.OwnRows
import Derived.Tactics
import Derived.Lib.ConvBytes
import Derived.Laws.Slices
import Derived.WalkKit
import Derived.KernelRfl
import Derived.RowKit3
import Derived.Deep.LoopGhost
import Derived.Deep.QuietTactic
import Derived.BigQuiet
import Derived.WideLaws
import Derived.Deep.DeepCutAuto
import Derived.Deep.CutBlock
import Derived.Deep.RegionHeld3
import Derived.Laws.Rows
import Derived.Lib.AppendStr
import Derived.ArgAppend
import Derived.Laws.IdiomCopy
import Derived.OrdersHeld
import Derived.Laws.BitsLemmas
import Derived.RowKit
import Derived.Laws.StructEq
import Derived.Outline
import Derived.Laws.CopyOwn
import Derived.Deep.RegionLaw
import Derived.LoopTactic
import Derived.IntWalk
import Derived.Test.YtgeldmhgbnamcaaFSa0
import Derived.Test.YtgeldmhgbnamcaaFSa1
import Derived.Test.YtgeldmhgbnamcaaFSa2
import Derived.Test.YtgeldmhgbnamcaaFSa5
import Derived.Test.YtgeldmhgbnamcaaFSa6
import Derived.Test.YtgeldmhgbnamcaaFSa3
section
namespace Go.Proofs.Ytgeldmhgbnamcaa.P
open Go.RowKit Go.Proofs.YtgeldmhgbnamcaaW.PrintWords Go.Proofs.YtgeldmhgbnamcaaW.PrintLast Go.Proofs.YtgeldmhgbnamcaaW.PrintMore
attribute [local go_sem] max2_int min2_int max_two min_two max_three min_three max_four min_four   -- for this text's walks alone
set_option linter.unusedVariables false
set_option linter.unusedSimpArgs false
/-! ### batch_Change_88: function 88 -/
mutual
def batch_Change_88.l0 : Nat → List (S50) → Int → Int → Int → Int → Option ((List (S50)))
 | 0, _, _, _, _, _ => none
 | k + 1, x0, x1, x6, x7, x8 => if x8 ≤ x1 then ((batch_Change_95.f k x0 x7 x8).bind fun t157 => (batch_Change_88.l0 k t157 x1 x6 x8 (wrap64 (x8 + x6)))) else ((batch_Change_95.f k x0 x7 x1).bind fun t158 => (batch_Change_88.l1 k t158 x1 x6))
def batch_Change_88.l1 : Nat → List (S50) → Int → Int → Option ((List (S50)))
 | 0, _, _, _ => none
 | k + 1, x0, x1, x6 => if x6 < x1 then (batch_Change_88.l2 k x0 x1 x6 0 (wrap64 (2 * x6))) else (some x0)
def batch_Change_88.l2 : Nat → List (S50) → Int → Int → Int → Int → Option ((List (S50)))
 | 0, _, _, _, _, _ => none
 | k + 1, x0, x1, x6, x7, x8 => if x8 ≤ x1 then ((batch_Change_96.f k x0 x7 (wrap64 (x7 + x6)) x8).bind fun t159 => (batch_Change_88.l2 k t159 x1 x6 x8 (wrap64 (x8 + (wrap64 (2 * x6)))))) else (if (wrap64 (x7 + x6)) < x1 then ((batch_Change_96.f k x0 x7 (wrap64 (x7 + x6)) x1).bind fun t160 => (batch_Change_88.l1 k t160 x1 (wrap64 (x6 * 2)))) else (batch_Change_88.l1 k x0 x1 (wrap64 (x6 * 2))))
end
def batch_Change_88.f (k : Nat) (l0 : List (S50)) (a1 : Int)  : Option ((List (S50))) := batch_Change_88.l0 k l0 a1 20 0 20
set_option maxHeartbeats 8000000 in
set_option maxRecDepth 100000 in
theorem batch_Change_88.calls (k : Nat) (P0_ : Nat → Prop) (u9000_ : Value) (l0 : List (S50)) (a1 : Int)  (r : List (S50)) (w0 w : World) (hB : Below w0.heap.size w0 w) (ho0 : Kd.R k50 50 w w0.heap.size P0_ u9000_ l0) (h : batch_Change_88.f k l0 a1 = some r) :
  Calls Try.prog 88 #[u9000_, .int .i64 a1, .func (.func 53) #[] #[]] w fun e w' => e = .returned (.tuple #[]) ∧ Kd.R k50 50 w' w0.heap.size (fun k_ => (P0_ k_ ∨ w.heap.size ≤ k_)) u9000_ r ∧ Below w0.heap.size w0 w' ∧ Kept w w' (fun k_ => P0_ k_) := by
 (have HO0 := Aside0.mk (show Kd.R k50 50 w w0.heap.size (fun k_ => (P0_ k_ ∨ w.heap.size ≤ k_)) u9000_ l0 from Kd.R_mono ho0 (fun k_ hk => (.inl hk)))); (have HK := Aside0.mk (Kept.refl w (fun k_ => P0_ k_))); (have HW0 := Aside0.mk hB.size); (have HB := Aside0.mk hB); clear hB; (have H : (batch_Change_88.l0 k l0 a1 20 0 20) = some r := h); clear h; (have H' := Aside0.mk H); clear H; go_enter Try.func88, Try.ntmps88; go_wp2; (try simp only [Act.put, List.setIfInBounds_toArray, List.set_cons_zero, List.set_cons_succ]); (go_loopg [7, 8] k (fun kq v7 v8 w' => ∃ (x0_1 : List (S50)) (x7_1 : Int) (x8_1 : Int), v7 = .int .i64 x7_1 ∧ v8 = .int .i64 x8_1 ∧ Aside0 (batch_Change_88.l0 kq x0_1 a1 20 x7_1 x8_1 = some r) ∧ Aside0 (kq ≤ k) ∧ Aside0 (Kd.R k50 50 w' w0.heap.size (fun k_ => (P0_ k_ ∨ w.heap.size ≤ k_)) u9000_ x0_1) ∧ Aside0 (Kept w w' (fun k_ => P0_ k_)) ∧ Aside0 (Below w0.heap.size w0 w')))
 case atStart => exact ⟨(l0), (0), (20), qr_, qr_, H', ⟨Nat.le_refl _⟩, ⟨rn HO0⟩, ⟨by repeat (first | (with_reducible first | exact HK.out | apply Kept.alloc | apply Kept.drewN | apply Kept.drew) | exact HK.out)⟩, ⟨bn HB⟩⟩
 case round =>
  clear H'; obtain ⟨x0_1, x7_1, x8_1, rfl, rfl, HA, HK1, HO_0, HK, HB⟩ := hrel
  cases gk with
  | zero => exact absurd HA.out (by simp [batch_Change_88.l0])
  | succ k1 =>
   (have H := HA.out); clear HA; simp only [batch_Change_88.l0] at H; by_cases c4 : x8_1 ≤ a1
   ·rw [if_pos c4] at H; (have c4b0 : decide (x8_1 ≤ a1) = true := decide_eq_true c4); clear c4; (replace H := Option.bind_eq_some_iff.mp H); obtain ⟨t157, A50, H⟩ := H; (replace H : (batch_Change_88.l0 k1 t157 a1 20 x8_1 (wrap64 (x8_1 + 20))) = some r := H); (have A5 := Aside0.mk A50); clear A50; (have H' := Aside0.mk H); clear H; obtain ⟨Ao6, co6, eo6⟩ := Kd.R_slice HO_0.out; subst eo6; (go_wp2_with (first | ((with_reducible refine gate_callee (f := 95) rfl ?_); refine gl (some 18) Try.func95 #[.slice Ao6 x0_1.length co6, .int .i64 x7_1, .int .i64 x8_1, .func (.func 53) #[] #[]] ?_; (with_reducible refine (batch_Change_95.calls k1 (fun k_ => some k_ = (.slice Ao6 x0_1.length co6 : Value).ownBlock) (.slice Ao6 x0_1.length co6) x0_1 x7_1 x8_1  t157 w0 _ ?side1 ?side2 A5.out).mono ?_); (case side1 => repeat (first | (with_reducible first | exact HB.out | apply below_alloc | apply pw_below_drewN | apply below_drew1) | exact HB.out)); (case side2 => exact Kd.R_tight rfl HO_0.out); rintro e w7 ⟨rfl, hy0, hb, hkp⟩; refine ⟨_, rfl, ?_⟩; have n0_ := Aside0.mk (Kd.R_reok rfl hy0 (fun k_ e_ => HO_0.out.1 k_ e_)); have n1_ := Aside0.mk (Kept.then_ (S := (fun k_ => P0_ k_)) (by repeat (first | (with_reducible first | exact HK.out | apply Kept.alloc | apply Kept.drewN | apply Kept.drew) | exact HK.out)) hkp (fun k_ hs_ => (fun e_ => (HO_0.out.1 k_ e_.symm)) hs_)); have n2_ := Aside0.mk (hb); clear HO_0; clear HK; clear HB; have HO_0 := n0_; have HK := n1_; have HB := n2_; clear n0_ n1_ n2_; (try clear hb); (try clear hkp); (try clear hy0)))); go_roundg k1
    case measure => have := HK1.out; omega
    case rel => exact ⟨(t157), (x8_1), (wrap64 (x8_1 + 20)), qr_, qr_, H', ⟨by have := HK1.out; omega⟩, ⟨rn HO_0⟩, ⟨by repeat (first | (with_reducible first | exact HK.out | apply Kept.alloc | apply Kept.drewN | apply Kept.drew) | exact HK.out)⟩, ⟨bn HB⟩⟩
   ·rw [if_neg c4] at H; (have c4b0 : decide (x8_1 ≤ a1) = false := decide_eq_false c4); clear c4; (replace H := Option.bind_eq_some_iff.mp H); obtain ⟨t158, A80, H⟩ := H; (replace H : (batch_Change_88.l1 k1 t158 a1 20) = some r := H); (have A8 := Aside0.mk A80); clear A80; (have H' := Aside0.mk H); clear H; obtain ⟨Ao9, co9, eo9⟩ := Kd.R_slice HO_0.out; subst eo9; (go_wp2_with (first | ((with_reducible refine gate_callee (f := 95) rfl ?_); refine gl (some 27) Try.func95 #[.slice Ao9 x0_1.length co9, .int .i64 x7_1, .int .i64 a1, .func (.func 53) #[] #[]] ?_; (with_reducible refine (batch_Change_95.calls k1 (fun k_ => some k_ = (.slice Ao9 x0_1.length co9 : Value).ownBlock) (.slice Ao9 x0_1.length co9) x0_1 x7_1 a1  t158 w0 _ ?side1 ?side2 A8.out).mono ?_); (case side1 => repeat (first | (with_reducible first | exact HB.out | apply below_alloc | apply pw_below_drewN | apply below_drew1) | exact HB.out)); (case side2 => exact Kd.R_tight rfl HO_0.out); rintro e w10 ⟨rfl, hy0, hb, hkp⟩; refine ⟨_, rfl, ?_⟩; have n0_ := Aside0.mk (Kd.R_reok rfl hy0 (fun k_ e_ => HO_0.out.1 k_ e_)); have n1_ := Aside0.mk (Kept.then_ (S := (fun k_ => P0_ k_)) (by repeat (first | (with_reducible first | exact HK.out | apply Kept.alloc | apply Kept.drewN | apply Kept.drew) | exact HK.out)) hkp (fun k_ hs_ => (fun e_ => (HO_0.out.1 k_ e_.symm)) hs_)); have n2_ := Aside0.mk (hb); clear HO_0; clear HK; clear HB; have HO_0 := n0_; have HK := n1_; have HB := n2_; clear n0_ n1_ n2_; (try clear hb); (try clear hkp); (try clear hy0)))); (try simp only [Act.put, List.setIfInBounds_toArray, List.set_cons_zero, List.set_cons_succ]); (go_loopg [6] k1 (fun kq v6 w' => ∃ (x0_2 : List (S50)) (x6_2 : Int), v6 = .int .i64 x6_2 ∧ Aside0 (batch_Change_88.l1 kq x0_2 a1 x6_2 = some r) ∧ Aside0 (kq ≤ k1) ∧ Aside0 (Kd.R k50 50 w' w0.heap.size (fun k_ => (P0_ k_ ∨ w.heap.size ≤ k_)) (.slice Ao9 x0_1.length co9) x0_2) ∧ Aside0 (Kept w w' (fun k_ => P0_ k_)) ∧ Aside0 (Below w0.heap.size w0 w')))
    case atStart => exact ⟨(t158), (20), qr_, H', ⟨Nat.le_refl _⟩, ⟨rn HO_0⟩, ⟨by repeat (first | (with_reducible first | exact HK.out | apply Kept.alloc | apply Kept.drewN | apply Kept.drew) | exact HK.out)⟩, ⟨bn HB⟩⟩
    case round =>
     clear H'; obtain ⟨x0_2, x6_2, rfl, HA, HK2, HO_0, HK, HB⟩ := hrel; (have hl0_2 := (Kd.R_reads' HO_0.out).1); rw [hl0_2] at HO_0; (try simp only [hl0_2])
     cases gk with
     | zero => exact absurd HA.out (by simp [batch_Change_88.l1])
     | succ k2 =>
      (have H := HA.out); clear HA; simp only [batch_Change_88.l1] at H; by_cases c11 : x6_2 < a1
      ·rw [if_pos c11] at H; (have c11b0 : decide (x6_2 < a1) = true := decide_eq_true c11); clear c11; (have H' := Aside0.mk H); clear H; go_wp2; (try simp only [Act.put, List.setIfInBounds_toArray, List.set_cons_zero, List.set_cons_succ]); (go_loopg [7, 8] k2 (fun kq v7 v8 w' => ∃ (x0_3 : List (S50)) (x7_3 : Int) (x8_3 : Int), v7 = .int .i64 x7_3 ∧ v8 = .int .i64 x8_3 ∧ Aside0 (batch_Change_88.l2 kq x0_3 a1 x6_2 x7_3 x8_3 = some r) ∧ Aside0 (kq ≤ k2) ∧ Aside0 (Kd.R k50 50 w' w0.heap.size (fun k_ => (P0_ k_ ∨ w.heap.size ≤ k_)) (.slice Ao9 x0_2.length co9) x0_3) ∧ Aside0 (Kept w w' (fun k_ => P0_ k_)) ∧ Aside0 (Below w0.heap.size w0 w')))
       case atStart => exact ⟨(x0_2), (0), (wrap64 (2 * x6_2)), qr_, qr_, H', ⟨Nat.le_refl _⟩, ⟨by (try simp only [hl0_2]); (with_reducible repeat (first | apply Kd.R_alloc | apply Kd.R_drewN | apply Kd.R_drew)); exact HO_0.out⟩, ⟨by repeat (first | (with_reducible first | exact HK.out | apply Kept.alloc | apply Kept.drewN | apply Kept.drew) | exact HK.out)⟩, ⟨bn HB⟩⟩
       case round =>
        clear H'; obtain ⟨x0_3, x7_3, x8_3, rfl, rfl, HA, HK3, HO_0, HK, HB⟩ := hrel; (have hl0_3 := (Kd.R_reads' HO_0.out).1); rw [hl0_3] at HO_0; (try simp only [hl0_3])
        cases gk with
        | zero => exact absurd HA.out (by simp [batch_Change_88.l2])
        | succ k3 =>
         (have H := HA.out); clear HA; simp only [batch_Change_88.l2] at H; by_cases c12 : x8_3 ≤ a1
         ·rw [if_pos c12] at H; (have c12b0 : decide (x8_3 ≤ a1) = true := decide_eq_true c12); clear c12; (replace H := Option.bind_eq_some_iff.mp H); obtain ⟨t159, A130, H⟩ := H; (replace H : (batch_Change_88.l2 k3 t159 a1 x6_2 x8_3 (wrap64 (x8_3 + (wrap64 (2 * x6_2))))) = some r := H); (have A13 := Aside0.mk A130); clear A130; (have H' := Aside0.mk H); clear H; (go_wp2_with (first | ((with_reducible refine gate_callee (f := 96) rfl ?_); refine gl (some 43) Try.func96 #[.slice Ao9 x0_3.length co9, .int .i64 x7_3, .int .i64 (wrap64 (x7_3 + x6_2)), .int .i64 x8_3, .func (.func 53) #[] #[]] ?_; (with_reducible refine (batch_Change_96.calls k3 (fun k_ => some k_ = (.slice Ao9 x0_3.length co9 : Value).ownBlock) (.slice Ao9 x0_3.length co9) x0_3 x7_3 (wrap64 (x7_3 + x6_2)) x8_3  t159 w0 _ ?side1 ?side2 A13.out).mono ?_); (case side1 => repeat (first | (with_reducible first | exact HB.out | apply below_alloc | apply pw_below_drewN | apply below_drew1) | exact HB.out)); (case side2 => exact Kd.R_tight rfl HO_0.out); rintro e w14 ⟨rfl, hy0, hb, hkp⟩; refine ⟨_, rfl, ?_⟩; have n0_ := Aside0.mk (Kd.R_reok rfl hy0 (fun k_ e_ => HO_0.out.1 k_ e_)); have n1_ := Aside0.mk (Kept.then_ (S := (fun k_ => P0_ k_)) (by repeat (first | (with_reducible first | exact HK.out | apply Kept.alloc | apply Kept.drewN | apply Kept.drew) | exact HK.out)) hkp (fun k_ hs_ => (fun e_ => (HO_0.out.1 k_ e_.symm)) hs_)); have n2_ := Aside0.mk (hb); clear HO_0; clear HK; clear HB; have HO_0 := n0_; have HK := n1_; have HB := n2_; clear n0_ n1_ n2_; (try clear hb); (try clear hkp); (try clear hy0)))); (try simp only [← hl0_3]); go_roundg k3
          case measure => have := HK1.out; have := HK2.out; have := HK3.out; omega
          case rel => exact ⟨(t159), (x8_3), (wrap64 (x8_3 + (wrap64 (2 * x6_2)))), qr_, qr_, H', ⟨by have := HK1.out; have := HK2.out; have := HK3.out; omega⟩, ⟨by (try simp only [hl0_2]); (try simp only [hl0_3]); (with_reducible repeat (first | apply Kd.R_alloc | apply Kd.R_drewN | apply Kd.R_drew)); exact HO_0.out⟩, ⟨by repeat (first | (with_reducible first | exact HK.out | apply Kept.alloc | apply Kept.drewN | apply Kept.drew) | exact HK.out)⟩, ⟨bn HB⟩⟩
         ·rw [if_neg c12] at H; (have c12b0 : decide (x8_3 ≤ a1) = false := decide_eq_false c12); clear c12; by_cases c15 : (wrap64 (x7_3 + x6_2)) < a1
          ·rw [if_pos c15] at H; (have c15b0 : decide ((wrap64 (x7_3 + x6_2)) < a1) = true := decide_eq_true c15); clear c15; (replace H := Option.bind_eq_some_iff.mp H); obtain ⟨t160, A160, H⟩ := H; (replace H : (batch_Change_88.l1 k3 t160 a1 (wrap64 (x6_2 * 2))) = some r := H); (have A16 := Aside0.mk A160); clear A160; (have H' := Aside0.mk H); clear H; (go_wp2_with (first | ((with_reducible refine gate_callee (f := 96) rfl ?_); refine gl (some 60) Try.func96 #[.slice Ao9 x0_3.length co9, .int .i64 x7_3, .int .i64 (wrap64 (x7_3 + x6_2)), .int .i64 a1, .func (.func 53) #[] #[]] ?_; (with_reducible refine (batch_Change_96.calls k3 (fun k_ => some k_ = (.slice Ao9 x0_3.length co9 : Value).ownBlock) (.slice Ao9 x0_3.length co9) x0_3 x7_3 (wrap64 (x7_3 + x6_2)) a1  t160 w0 _ ?side1 ?side2 A16.out).mono ?_); (case side1 => repeat (first | (with_reducible first | exact HB.out | apply below_alloc | apply pw_below_drewN | apply below_drew1) | exact HB.out)); (case side2 => exact Kd.R_tight rfl HO_0.out); rintro e w17 ⟨rfl, hy0, hb, hkp⟩; refine ⟨_, rfl, ?_⟩; have n0_ := Aside0.mk (Kd.R_reok rfl hy0 (fun k_ e_ => HO_0.out.1 k_ e_)); have n1_ := Aside0.mk (Kept.then_ (S := (fun k_ => P0_ k_)) (by repeat (first | (with_reducible first | exact HK.out | apply Kept.alloc | apply Kept.drewN | apply Kept.drew) | exact HK.out)) hkp (fun k_ hs_ => (fun e_ => (HO_0.out.1 k_ e_.symm)) hs_)); have n2_ := Aside0.mk (hb); clear HO_0; clear HK; clear HB; have HO_0 := n0_; have HK := n1_; have HB := n2_; clear n0_ n1_ n2_; (try clear hb); (try clear hkp); (try clear hy0)))); (try simp only [← hl0_2, ← hl0_3]); go_roundg k3
           case measure => have := HK1.out; have := HK2.out; have := HK3.out; omega
           case rel => exact ⟨(t160), (wrap64 (x6_2 * 2)), qr_, H', ⟨by have := HK1.out; have := HK2.out; have := HK3.out; omega⟩, ⟨by (try simp only [hl0_2]); (try simp only [hl0_3]); (with_reducible repeat (first | apply Kd.R_alloc | apply Kd.R_drewN | apply Kd.R_drew)); exact HO_0.out⟩, ⟨by repeat (first | (with_reducible first | exact HK.out | apply Kept.alloc | apply Kept.drewN | apply Kept.drew) | exact HK.out)⟩, ⟨bn HB⟩⟩
          ·rw [if_neg c15] at H; (have c15b0 : decide ((wrap64 (x7_3 + x6_2)) < a1) = false := decide_eq_false c15); clear c15; (have H' := Aside0.mk H); clear H; go_wp2; (try simp only [← hl0_2, ← hl0_3]); go_roundg k3
           case measure => have := HK1.out; have := HK2.out; have := HK3.out; omega
           case rel => exact ⟨(x0_3), (wrap64 (x6_2 * 2)), qr_, H', ⟨by have := HK1.out; have := HK2.out; have := HK3.out; omega⟩, ⟨by (try simp only [hl0_2]); (try simp only [hl0_3]); (with_reducible repeat (first | apply Kd.R_alloc | apply Kd.R_drewN | apply Kd.R_drew)); exact HO_0.out⟩, ⟨by repeat (first | (with_reducible first | exact HK.out | apply Kept.alloc | apply Kept.drewN | apply Kept.drew) | exact HK.out)⟩, ⟨bn HB⟩⟩
      ·rw [if_neg c11] at H; (have c11b0 : decide (x6_2 < a1) = false := decide_eq_false c11); clear c11; obtain rfl := Option.some.inj H; go_wp2; (first | go_end0 | ((try simp only [Exit.inBlock, Exit.then]); refine bodyPost_ret (results_none rfl _ _ _) rfl ?_)); (exact ⟨by first | rfl | (simp [errW_none, errW_some] <;> rfl) | (simp [*, errW_none, errW_some] <;> rfl), (by first | exact (rn HO_0) | (simp only [hl0_2]; exact (rn HO_0))), bn HB, by repeat (first | (with_reducible first | exact HK.out | apply Kept.alloc | apply Kept.drewN | apply Kept.drew) | exact HK.out)⟩)
/-! ### batch_Change_74: function 74 -/
def batch_Change_74.f (k : Nat) (l0 : List (S50))  : Option ((List (S50))) := (batch_Change_88.f k l0 (l0.length : Int)).bind fun t161 => (some t161)
set_option maxHeartbeats 8000000 in
set_option maxRecDepth 100000 in
theorem batch_Change_74.calls (k : Nat) (P0_ : Nat → Prop) (u9000_ : Value) (l0 : List (S50))  (r : List (S50)) (w0 w : World) (hB : Below w0.heap.size w0 w) (ho0 : Kd.R k50 50 w w0.heap.size P0_ u9000_ l0) (h : batch_Change_74.f k l0 = some r) :
  Calls Try.prog 74 #[u9000_, .func (.func 53) #[] #[]] w fun e w' => e = .returned (.tuple #[]) ∧ Kd.R k50 50 w' w0.heap.size (fun k_ => (P0_ k_ ∨ w.heap.size ≤ k_)) u9000_ r ∧ Below w0.heap.size w0 w' ∧ Kept w w' (fun k_ => P0_ k_) := by
 (have HO0 := Aside0.mk (show Kd.R k50 50 w w0.heap.size (fun k_ => (P0_ k_ ∨ w.heap.size ≤ k_)) u9000_ l0 from Kd.R_mono ho0 (fun k_ hk => (.inl hk)))); (have HK := Aside0.mk (Kept.refl w (fun k_ => P0_ k_))); (have HW0 := Aside0.mk hB.size); (have HB := Aside0.mk hB); clear hB; (have H : ((batch_Change_88.f k l0 (l0.length : Int)).bind fun t161 => (some t161)) = some r := h); clear h; (replace H := Option.bind_eq_some_iff.mp H); obtain ⟨t161, A30, H⟩ := H; (replace H : (some t161) = some r := H); (have A3 := Aside0.mk A30); clear A30; obtain rfl := Option.some.inj H; obtain ⟨Ao4, co4, eo4⟩ := Kd.R_slice HO0.out; subst eo4; go_enter Try.func74, Try.ntmps74; (go_wp2_with (first | ((with_reducible refine gate_callee (f := 88) rfl ?_); refine gl (some 8) Try.func88 #[.slice Ao4 l0.length co4, .int .i64 (l0.length : Int), .func (.func 53) #[] #[]] ?_; (with_reducible refine (batch_Change_88.calls k (fun k_ => some k_ = (.slice Ao4 l0.length co4 : Value).ownBlock) (.slice Ao4 l0.length co4) l0 (l0.length : Int)  t161 w0 _ ?side1 ?side2 A3.out).mono ?_); (case side1 => repeat (first | (with_reducible first | exact HB.out | apply below_alloc | apply pw_below_drewN | apply below_drew1) | exact HB.out)); (case side2 => exact Kd.R_tight rfl HO0.out); rintro e w5 ⟨rfl, hy0, hb, hkp⟩; refine ⟨_, rfl, ?_⟩; have n0_ := Aside0.mk (Kd.R_reok rfl hy0 (fun k_ e_ => HO0.out.1 k_ e_)); have n1_ := Aside0.mk (Kept.then_ (S := (fun k_ => P0_ k_)) (by repeat (first | (with_reducible first | exact HK.out | apply Kept.alloc | apply Kept.drewN | apply Kept.drew) | exact HK.out)) hkp (fun k_ hs_ => (fun e_ => (HO0.out.1 k_ e_.symm)) hs_)); have n2_ := Aside0.mk (hb); clear HO0; clear HK; clear HB; have HO0 := n0_; have HK := n1_; have HB := n2_; clear n0_ n1_ n2_; (try clear hb); (try clear hkp); (try clear hy0)))); (first | go_end0 | ((try simp only [Exit.inBlock, Exit.then]); refine bodyPost_ret (results_none rfl _ _ _) rfl ?_)); (exact ⟨by first | rfl | (simp [errW_none, errW_some] <;> rfl) | (simp [*, errW_none, errW_some] <;> rfl), rn HO0, bn HB, by repeat (first | (with_reducible first | exact HK.out | apply Kept.alloc | apply Kept.drewN | apply Kept.drew) | exact HK.out)⟩)
/-! ### batch_summed: function 49 -/
mutual
def batch_summed.l0 : Nat → List (S50) → List (S50) → Int → Option ((List (S50)) × Int × (List (S50)))
 | 0, _, _, _ => none
 | k + 1, x0, x4, x5 => if x5 < (x0.length : Int) then (if 0 ≤ x5 then (batch_summed.l1 k x0 x4 (wrap64 (x5 + 1)) ((rd_T50 x0 x5).f0) ((rd_T50 x0 x5).f1) ((rd_T50 x0 x5).f2)) else (none)) else (some (x4, 0, x0))
def batch_summed.j2 : Nat → List (S50) → List (S50) → Int → Int → Int → Int → Option ((List (S50)) × Int × (List (S50)))
 | 0, _, _, _, _, _, _ => none
 | k + 1, x0, x4, x5, x165000, x165001, x165002 => (batch_within.f x165002).bind fun t168 => (if t168 = true then (if x165002 = 0 then (batch_summed.l0 k x0 x4 x5) else (if x4.length < 5864062014805 then (batch_summed.l0 k x0 (x4 ++ [(⟨x165000, x165001, x165002⟩ : S50)]) x5) else (none))) else (some (([] : List (S50)), 10, x0)))
def batch_summed.l1 : Nat → List (S50) → List (S50) → Int → Int → Int → Int → Option ((List (S50)) × Int × (List (S50)))
 | 0, _, _, _, _, _, _ => none
 | k + 1, x0, x4, x5, x165000, x165001, x165002 => if x5 < (x0.length : Int) then (if 0 ≤ x5 then ((batch_order.f k ((rd_T50 x0 x5).f0) ((rd_T50 x0 x5).f1) ((rd_T50 x0 x5).f2) x165000 x165001 x165002).bind fun t166 => (if t166 = 0 then (batch_summed.l1 k x0 x4 (wrap64 (x5 + 1)) x165000 x165001 (wrap64 (x165002 + ((rd_T50 x0 x5).f2)))) else (batch_summed.j2 k x0 x4 x5 x165000 x165001 x165002))) else (none)) else (batch_summed.j2 k x0 x4 x5 x165000 x165001 x165002)
end
def batch_summed.f (k : Nat) (l0 : List (S50)) : Option ((List (S50)) × Int × (List (S50))) := (batch_Change_74.f k l0).bind fun t162 => (batch_summed.l0 k t162 ([] : List (S50)) 0)
def batch_summed.T7 : Bool × List (List Nat × List Nat) := (true, [([], []), ([], []), ([1], [1]), ([0, 2], [0, 2]), ([3], [3]), ([4], [4]), ([4], [4]), ([5, 6, 4], [4, 5, 6]), ([7, 4], [4, 7]), ([4], [4]), ([8, 9, 4, 4], [4, 8, 9]), ([10, 4], [4, 10]), ([4, 11], [4, 11])])
def batch_summed.B7 : List Nat := [0, 0, 2, 7, 15, 31, 31, 127, 255, 31, 1023, 2047, 4095]
theorem batch_summed.tab7 : rtab .any (opsOf Try.f49 7) = batch_summed.T7 := by kernel_rfl
theorem batch_summed.bits7 : waitsOk batch_summed.T7.2 batch_summed.B7 = true := by kernel_rfl
def batch_summed.T9 : Bool × List (List Nat × List Nat) := (true, [([], []), ([0], [0]), ([], []), ([], []), ([2, 3], [2, 3]), ([4], [4]), ([5], [5]), ([1, 6], [1, 6]), ([0, 1, 2, 3, 4, 5, 6, 7], []), ([8, 7, 0, 1, 2, 3, 4, 5, 6, 7], [7, 8])])
def batch_summed.B9 : List Nat := [0, 1, 0, 0, 12, 28, 60, 127, 255, 511]
theorem batch_summed.tab9 : rtab .any (opsOf Try.f49 9) = batch_summed.T9 := by kernel_rfl
theorem batch_summed.bits9 : waitsOk batch_summed.T9.2 batch_summed.B9 = true := by kernel_rfl
set_option maxHeartbeats 8000000 in
set_option maxRecDepth 100000 in
theorem batch_summed.calls (k : Nat) (P0_ : Nat → Prop) (u9000_ : Value) (l0 : List (S50)) (r1 : List (S50)) (r2 : Int) (r3 : List (S50)) (w0 w : World) (hB : Below w0.heap.size w0 w) (ho0 : Kd.R k50 50 w w0.heap.size P0_ u9000_ l0) (h : batch_summed.f k l0 = some (r1, r2, r3)) :
  Calls Try.prog 49 #[u9000_] w fun e w' => ∃ v0_ : Value, e = .returned (.tuple #[v0_, .int .i64 r2]) ∧ Kd.R k50 50 w' w0.heap.size (fun k_ => (P0_ k_ ∨ w.heap.size ≤ k_) ∧ some k_ ≠ (u9000_ : Value).ownBlock) v0_ r1 ∧ Kd.R k50 50 w' w0.heap.size (fun k_ => (P0_ k_ ∨ w.heap.size ≤ k_)) u9000_ r3 ∧ Below w0.heap.size w0 w' ∧ Kept w w' (fun k_ => P0_ k_) := by
 (have hu50 := Try.underlying50); (have HO0 := Aside0.mk (show Kd.R k50 50 w w0.heap.size (fun k_ => (P0_ k_ ∨ w.heap.size ≤ k_)) u9000_ l0 from Kd.R_mono ho0 (fun k_ hk => (.inl hk)))); (have HK := Aside0.mk (Kept.refl w (fun k_ => P0_ k_))); (have HW0 := Aside0.mk hB.size); (have HB := Aside0.mk hB); clear hB; (have H : ((batch_Change_74.f k l0).bind fun t162 => (batch_summed.l0 k t162 ([] : List (S50)) 0)) = some (r1, r2, r3) := h); clear h; (replace H := Option.bind_eq_some_iff.mp H); obtain ⟨t162, A20, H⟩ := H; (replace H : (batch_summed.l0 k t162 ([] : List (S50)) 0) = some (r1, r2, r3) := H); (have A2 := Aside0.mk A20); clear A20; (have H' := Aside0.mk H); clear H; obtain ⟨Ao3, co3, eo3⟩ := Kd.R_slice HO0.out; subst eo3; go_enter Try.func49, Try.ntmps49; (go_wp2_with (first | ((with_reducible refine gate_callee (f := 74) rfl ?_); refine gl (some 8) Try.func74 #[.slice Ao3 l0.length co3, .func (.func 53) #[] #[]] ?_; (with_reducible refine (batch_Change_74.calls k (fun k_ => some k_ = (.slice Ao3 l0.length co3 : Value).ownBlock) (.slice Ao3 l0.length co3) l0  t162 w0 _ ?side1 ?side2 A2.out).mono ?_); (case side1 => repeat (first | (with_reducible first | exact HB.out | apply below_alloc | apply pw_below_drewN | apply below_drew1) | exact HB.out)); (case side2 => exact Kd.R_tight rfl HO0.out); rintro e w4 ⟨rfl, hy0, hb, hkp⟩; refine ⟨_, rfl, ?_⟩; have n0_ := Aside0.mk (Kd.R_reok rfl hy0 (fun k_ e_ => HO0.out.1 k_ e_)); have n1_ := Aside0.mk (Kept.then_ (S := (fun k_ => P0_ k_)) (by repeat (first | (with_reducible first | exact HK.out | apply Kept.alloc | apply Kept.drewN | apply Kept.drew) | exact HK.out)) hkp (fun k_ hs_ => (fun e_ => (HO0.out.1 k_ e_.symm)) hs_)); have n2_ := Aside0.mk (hb); clear HO0; clear HK; clear HB; have HO0 := n0_; have HK := n1_; have HB := n2_; clear n0_ n1_ n2_; (try clear hb); (try clear hkp); (try clear hy0)))); (go_loopg [4, 5] k (fun kq v4 v5 w' => ∃ (x4_1 : List (S50)) (x5_1 : Int), v5 = .int .i64 x5_1 ∧ Aside0 (batch_summed.l0 kq t162 x4_1 x5_1 = some (r1, r2, r3)) ∧ Aside0 (kq ≤ k) ∧ Aside0 (Kd.R k50 50 w' w0.heap.size (fun k_ => (P0_ k_ ∨ w.heap.size ≤ k_) ∧ some k_ ≠ (v4 : Value).ownBlock) (.slice Ao3 l0.length co3) t162) ∧ Aside0 (Kd.R k50 50 w' w0.heap.size (fun k_ => (P0_ k_ ∨ w.heap.size ≤ k_) ∧ some k_ ≠ ((.slice Ao3 l0.length co3) : Value).ownBlock) v4 x4_1) ∧ Aside0 (Kept w w' (fun k_ => P0_ k_)) ∧ Aside0 (Below w0.heap.size w0 w')))
 case atStart => exact ⟨(([] : List (S50))), (0), qr_, H', ⟨Nat.le_refl _⟩, ⟨by (with_reducible repeat (first | apply Kd.R_alloc | apply Kd.R_drewN | apply Kd.R_drew)); exact Kd.R_mono HO0.out (fun _ hk => ⟨hk, (by simp [Value.ownBlock])⟩)⟩, ⟨by first | exact Kd.R_nil _ _ _ _ _ | exact Kd.N_nil _ _ _ _ _ | exact Kd.V_nil _ _ _ _ _ | exact Kd.Q_nil _ _ _ _ _ | exact Kd.S_nil _ _ _ _ _⟩, ⟨by repeat (first | (with_reducible first | exact HK.out | apply Kept.alloc | apply Kept.drewN | apply Kept.drew) | exact HK.out)⟩, ⟨bn HB⟩⟩
 case round =>
  clear H'; obtain ⟨x4_1, x5_1, rfl, HA, HK1, HO_0, HO_4, HK, HB⟩ := hrel; (have hl0_1 := (Kd.R_reads' HO_0.out).1); rw [hl0_1] at HO_0; (try simp only [hl0_1]); (try simp only [hl0_1] at HO_4)
  cases gk with
  | zero => exact absurd HA.out (by simp [batch_summed.l0])
  | succ k1 =>
   (have H := HA.out); clear HA; simp only [batch_summed.l0] at H; by_cases c5 : x5_1 < (t162.length : Int)
   ·rw [if_pos c5] at H; (have c5b0 : decide (x5_1 < (t162.length : Int)) = true := decide_eq_true c5); clear c5; by_cases c6 : 0 ≤ x5_1
    ·rw [if_pos c6] at H; (have c6b0 : decide (0 ≤ x5_1) = true := decide_eq_true c6); clear c6; (have HC7 := Aside0.mk H); clear H; (have p163 : 0 ≤ (x5_1 : Int) := of_decide_eq_true (by assumption)); (have q163 : x5_1 < (t162.length : Int) := of_decide_eq_true (by assumption)); obtain ⟨ad163, e163, hx163_0, hx163_1, hx163_2⟩ := at_T50 (Kd.R_reads' HO_0.out).2.2 x5_1 p163 q163; cases e163; (replace p163 := eq_true p163); (replace q163 := eq_true q163); (go_upto_block 2 with (first | ((with_reducible refine gate_dst (N := 6) rfl ?_); refine box_event ?hg (N := 6) ?hd (cs := #[.int .i64 0, .int .u64 0, .int .i64 0]) (t := 50) ?hr ?_; (case hd => rfl); (case hg => rfl); (case hr => first | (go_simp; done) | (go_simp; rfl)); intro gb164 hg w8 hbox hb; have n0_ := Aside0.mk (Kd.R_below (Kd.R_elderB (rn HO_0) gb164 (Nat.le_of_eq hg.symm)) hb); have n1_ := Aside0.mk (Kd.R_below (Kd.R_elderB (rn HO_4) gb164 (Nat.le_of_eq hg.symm)) hb); have n2_ := Aside0.mk (Kept.below (S := (fun k_ => P0_ k_)) (by repeat (first | (with_reducible first | exact HK.out | apply Kept.alloc | apply Kept.drewN | apply Kept.drew) | exact HK.out)) hb); have n4_ := Aside0.mk (hbox); have n5_ := Aside0.mk ((by rw [hg]; exact (by first | exact HK.out.1 | exact (show Kept w _ (fun k_ => P0_ k_) from by repeat (first | (with_reducible first | exact HK.out | apply Kept.alloc | apply Kept.drewN | apply Kept.drew) | exact HK.out)).1) : w.heap.size ≤ gb164)); have n6_ := Aside0.mk ((by rw [hg]; exact (below_size (bn HB)) : w0.heap.size ≤ gb164)); clear HO_0; clear HO_4; clear HK; have HO_0 := n0_; have HO_4 := n1_; have HK := n2_; replace HB := bb HB hb; have BK164 := n4_; have GW164 := n5_; have GE164 := n6_; clear n0_ n1_ n2_ n4_ n5_ n6_; clear hb hbox hg; have hcz9_0 : w8.cell? ⟨gb164, 0, none⟩ = some (.int .i64 0) := (blk_cell BK164.out 0).trans rfl; have hcz9_1 : w8.cell? ⟨gb164, 1, none⟩ = some (.int .u64 0) := (blk_cell BK164.out 1).trans rfl; have hcz9_2 : w8.cell? ⟨gb164, 2, none⟩ = some (.int .i64 0) := (blk_cell BK164.out 2).trans rfl; have hfz9_0 := blk_frozen BK164.out 0; have hfz9_1 := blk_frozen BK164.out 1; have hfz9_2 := blk_frozen BK164.out 2))); (try simp only [Act.put, List.setIfInBounds_toArray, List.set_cons_zero, List.set_cons_succ]); (go_cut [5] (fun v5 wc => ∃ (kq : Nat) (x5_6 : Int) (x165002_6 : Int), v5 = .int .i64 x5_6 ∧ Aside0 (batch_summed.j2 kq t162 x4_1 x5_6 ((rd_T50 t162 x5_1).f0) ((rd_T50 t162 x5_1).f1) x165002_6 = some (r1, r2, r3)) ∧ Aside0 (kq ≤ k1) ∧ Aside0 (Kd.R k50 50 wc w0.heap.size (fun k_ => (P0_ k_ ∨ w.heap.size ≤ k_) ∧ some k_ ≠ (u4 : Value).ownBlock ∧ k_ ≠ gb164) (.slice (some ad163) t162.length co3) t162) ∧ Aside0 (Kd.R k50 50 wc w0.heap.size (fun k_ => (P0_ k_ ∨ w.heap.size ≤ k_) ∧ some k_ ≠ ((.slice (some ad163) t162.length co3) : Value).ownBlock ∧ k_ ≠ gb164) u4 x4_1) ∧ Aside0 (wc.heap[gb164]? = some (.cells #[.int .i64 ((rd_T50 t162 x5_1).f0), .int .u64 ((rd_T50 t162 x5_1).f1), .int .i64 x165002_6] 50 (0, 0))) ∧ Aside0 (Kept w wc (fun k_ => P0_ k_)) ∧ Aside0 (Below w0.heap.size w0 wc)))
     case first =>
      (have H := HC7.out); clear HC7; (have H' := Aside0.mk H); clear H; go_wp2; (go_loopg [5] k1 (fun kq v5 w' => ∃ (x5_2 : Int) (x165002_2 : Int), v5 = .int .i64 x5_2 ∧ Aside0 (batch_summed.l1 kq t162 x4_1 x5_2 ((rd_T50 t162 x5_1).f0) ((rd_T50 t162 x5_1).f1) x165002_2 = some (r1, r2, r3)) ∧ Aside0 (kq ≤ k1) ∧ Aside0 (Kd.R k50 50 w' w0.heap.size (fun k_ => (P0_ k_ ∨ w.heap.size ≤ k_) ∧ some k_ ≠ (u4 : Value).ownBlock ∧ k_ ≠ gb164) (.slice (some ad163) t162.length co3) t162) ∧ Aside0 (Kd.R k50 50 w' w0.heap.size (fun k_ => (P0_ k_ ∨ w.heap.size ≤ k_) ∧ some k_ ≠ ((.slice (some ad163) t162.length co3) : Value).ownBlock ∧ k_ ≠ gb164) u4 x4_1) ∧ Aside0 (w'.heap[gb164]? = some (.cells #[.int .i64 ((rd_T50 t162 x5_1).f0), .int .u64 ((rd_T50 t162 x5_1).f1), .int .i64 x165002_2] 50 (0, 0))) ∧ Aside0 (Kept w w' (fun k_ => P0_ k_)) ∧ Aside0 (Below w0.heap.size w0 w')))
      case atStart => exact ⟨(wrap64 (x5_1 + 1)), ((rd_T50 t162 x5_1).f2), qr_, H', ⟨Nat.le_refl _⟩, ⟨by (try simp only [hl0_1]); (with_reducible repeat (first | apply Kd.R_alloc | apply Kd.R_drewN | apply Kd.R_drew)); exact Kd.R_mono (Kd.R_far (p := ⟨gb164, 2, none⟩) (Kd.R_far (p := ⟨gb164, 1, none⟩) (Kd.R_far (p := ⟨gb164, 0, none⟩) (Kd.R_mono HO_0.out (fun k_ hk => (⟨hk, hk.2⟩ : _ ∧ k_ ≠ gb164))) (fun _ hk => hk.2) (.int .i64 ((rd_T50 t162 x5_1).f0))) (fun _ hk => hk.2) (.int .u64 ((rd_T50 t162 x5_1).f1))) (fun _ hk => hk.2) (.int .i64 ((rd_T50 t162 x5_1).f2))) (fun _ hk => ⟨hk.1.1.1, ⟨hk.1.1.2, hk.1.2⟩⟩)⟩, ⟨by (try simp only [hl0_1]); (with_reducible repeat (first | apply Kd.R_alloc | apply Kd.R_drewN | apply Kd.R_drew)); exact Kd.R_mono (Kd.R_far (p := ⟨gb164, 2, none⟩) (Kd.R_far (p := ⟨gb164, 1, none⟩) (Kd.R_far (p := ⟨gb164, 0, none⟩) (Kd.R_mono HO_4.out (fun k_ hk => (⟨hk, hk.2⟩ : _ ∧ k_ ≠ gb164))) (fun _ hk => hk.2) (.int .i64 ((rd_T50 t162 x5_1).f0))) (fun _ hk => hk.2) (.int .u64 ((rd_T50 t162 x5_1).f1))) (fun _ hk => hk.2) (.int .i64 ((rd_T50 t162 x5_1).f2))) (fun _ hk => ⟨hk.1.1.1, ⟨hk.1.1.2, hk.1.2⟩⟩)⟩, ⟨by (try simp only [hl0_1]); (with_reducible repeat (first | refine blk_drewN ?_ _ | refine blk_drew ?_ | refine blk_alloc ?_ _)); refine blk_put (cs := #[.int .i64 ((rd_T50 t162 x5_1).f0), .int .u64 ((rd_T50 t162 x5_1).f1), .int .i64 0]) ?_ 2 _ rfl; (with_reducible repeat (first | refine blk_drewN ?_ _ | refine blk_drew ?_ | refine blk_alloc ?_ _)); refine blk_put (cs := #[.int .i64 ((rd_T50 t162 x5_1).f0), .int .u64 0, .int .i64 0]) ?_ 1 _ rfl; (with_reducible repeat (first | refine blk_drewN ?_ _ | refine blk_drew ?_ | refine blk_alloc ?_ _)); refine blk_put (cs := #[.int .i64 0, .int .u64 0, .int .i64 0]) ?_ 0 _ rfl; (with_reducible repeat (first | refine blk_drewN ?_ _ | refine blk_drew ?_ | refine blk_alloc ?_ _)); exact BK164.out⟩, ⟨by repeat (first | (with_reducible first | exact HK.out | apply Kept.alloc | apply Kept.drewN | apply Kept.drew | refine Kept.setCell ?_ (.inr GW164.out) _) | exact HK.out)⟩, ⟨bn1 HB GE164⟩⟩
      case round =>
       clear H'; obtain ⟨x5_2, x165002_2, rfl, HA, HK2, HO_0, HO_4, BK164, HK, HB⟩ := hrel
       cases gk with
       | zero => exact absurd HA.out (by simp [batch_summed.l1])
       | succ k2 =>
        (have H := HA.out); clear HA; simp only [batch_summed.l1] at H; by_cases c10 : x5_2 < (t162.length : Int)
        ·rw [if_pos c10] at H; (have c10b0 : decide (x5_2 < (t162.length : Int)) = true := decide_eq_true c10); clear c10; (first | rw [c10b0] | (simp only [i64_w, i32_w]; rw [c10b0]) | skip); by_cases c11 : 0 ≤ x5_2
         ·rw [if_pos c11] at H; (have c11b0 : decide (0 ≤ x5_2) = true := decide_eq_true c11); clear c11; (replace H := Option.bind_eq_some_iff.mp H); obtain ⟨t166, A120, H⟩ := H; (replace H : (if t166 = 0 then (batch_summed.l1 k2 t162 x4_1 (wrap64 (x5_2 + 1)) ((rd_T50 t162 x5_1).f0) ((rd_T50 t162 x5_1).f1) (wrap64 (x165002_2 + ((rd_T50 t162 x5_2).f2)))) else (batch_summed.j2 k2 t162 x4_1 x5_2 ((rd_T50 t162 x5_1).f0) ((rd_T50 t162 x5_1).f1) x165002_2)) = some (r1, r2, r3) := H); (have A12 := Aside0.mk A120); clear A120; by_cases c13 : t166 = 0
          ·rw [if_pos c13] at H; (have c13b0 : (t166 == 0) = true := beq_iff_eq.mpr c13); (have c13b1 : (t166 != 0) = false := bne_eq_false_iff_eq.mpr c13); clear c13; (have H' := Aside0.mk H); clear H; (try go_wp2); (have n0_ := Aside0.mk (Kd.R_drew HO_0.out)); (have n1_ := Aside0.mk (Kd.R_drew HO_4.out)); (have n2_ := Aside0.mk (blk_drew BK164.out)); (have n3_ := Aside0.mk (Kept.drew HK.out)); (have n4_ := Aside0.mk (below_drew1 HB.out)); clear HO_0; clear HO_4; clear BK164; clear HK; clear HB; (have HO_0 := n0_); (have HO_4 := n1_); (have BK164 := n2_); (have HK := n3_); (have HB := n4_); clear n0_ n1_ n2_ n3_ n4_; (have p165 : 0 ≤ (x5_2 : Int) := of_decide_eq_true (by assumption)); (have q165 : x5_2 < (t162.length : Int) := of_decide_eq_true (by assumption)); obtain ⟨ad165, e165, hx165_0, hx165_1, hx165_2⟩ := at_T50 (Kd.R_reads' HO_0.out).2.2 x5_2 p165 q165; obtain rfl : ad163 = ad165 := (by injection e165); (replace p165 := eq_true p165); (replace q165 := eq_true q165); (refine start_ (n := 13) (S := fun w' => w'.cell? ⟨gb164, 0, none⟩ = some (.int .i64 ((rd_T50 t162 x5_1).f0)) ∧ w'.cell? ⟨gb164, 1, none⟩ = some (.int .u64 ((rd_T50 t162 x5_1).f1)) ∧ w'.cell? ⟨gb164, 2, none⟩ = some (.int .i64 x165002_2) ∧ w'.cell? (ad163.add ((x5_2).toNat * 3)) = some (.int .i64 ((rd_T50 t162 x5_2).f0)) ∧ w'.cell? ⟨(ad163.add ((x5_2).toNat * 3)).block, (ad163.add ((x5_2).toNat * 3)).off + 1, none⟩ = some (.int .u64 ((rd_T50 t162 x5_2).f1)) ∧ w'.cell? ⟨(ad163.add ((x5_2).toNat * 3)).block, (ad163.add ((x5_2).toNat * 3)).off + 2, none⟩ = some (.int .i64 ((rd_T50 t162 x5_2).f2))) (ds := []) (mk_ 0 13) (by kernel_rfl) rfl rfl ⟨(blk_cell BK164.out 0).trans rfl, (blk_cell BK164.out 1).trans rfl, (blk_cell BK164.out 2).trans rfl, hx165_0, hx165_1, hx165_2⟩ (fun hHeld => ?_); refine with_tabW batch_summed.tab7 batch_summed.bits7 (fun HT_ HW_ => ?_)); generalize wr.drew = w14 at HO_0 HO_4 BK164 HK HB hx165_0 hx165_1 hx165_2 hHeld ⊢; refine pv_ 0 19 (mk_ 1 12) HT_ ?_; refine pv_ 1 20 (mk_ 2 11) HT_ ?_; refine pv_ 2 21 (mk_ 3 10) HT_ ?_; refine pv_ 3 22 (mk_ 4 9) HT_ ?_; refine pv_ 4 23 (mk_ 5 8) HT_ ?_; refine pv_ 5 24 (mk_ 6 7) HT_ ?_; refine pv_ 6 25 (mk_ 7 6) HT_ ?_; refine pv_ 7 26 (mk_ 8 5) HT_ ?_; (refine tv_ 8 27 (mk_ 9 4) HT_ HW_ hHeld (hy := by rintro w' ⟨s0, s1, s2, s3, s4, s5⟩; go_simp; with_reducible rfl) (h := ?_)); (refine tv_ 9 28 (mk_ 10 3) HT_ HW_ hHeld (hy := by rintro w' ⟨s0, s1, s2, s3, s4, s5⟩; go_simp; with_reducible rfl) (h := ?_)); (refine one_ (i := 10) (N := some 29) (mk_ 11 2) rfl rfl (one_of HT_.out (by kernel_rfl)) (by decide) (fun K hK => ?_)); refine goes_ Try.func53 (by kernel_rfl) rfl #[.agg #[.int .i64 ((rd_T50 t162 x5_2).f0), .int .u64 ((rd_T50 t162 x5_2).f1), .int .i64 ((rd_T50 t162 x5_2).f2)], .agg #[.int .i64 ((rd_T50 t162 x5_1).f0), .int .u64 ((rd_T50 t162 x5_1).f1), .int .i64 x165002_2]] (by rfl) rfl rfl am_ ?_; (with_reducible refine (batch_order.calls k2 ((rd_T50 t162 x5_2).f0) ((rd_T50 t162 x5_2).f1) ((rd_T50 t162 x5_2).f2) ((rd_T50 t162 x5_1).f0) ((rd_T50 t162 x5_1).f1) x165002_2 t166 _ A12.out).mono ?_)
           rintro e w15 ⟨rfl, hb⟩; (have HS3_ := (hb.cell (World.block_lt_of_cell? _ _ (hHeld.2.2.2.1))).trans (hHeld.2.2.2.1)); (have HS4_ := (hb.cell (World.block_lt_of_cell? _ _ (hHeld.2.2.2.2.1))).trans (hHeld.2.2.2.2.1)); (have HS5_ := (hb.cell (World.block_lt_of_cell? _ _ (hHeld.2.2.2.2.2))).trans (hHeld.2.2.2.2.2)); refine ⟨_, rfl, ?_⟩; (have n0_ := Aside0.mk (Kd.R_below (rn HO_0) hb)); (have n1_ := Aside0.mk (Kd.R_below (rn HO_4) hb)); (have n2_ := Aside0.mk (bkb BK164 hb)); (have n3_ := Aside0.mk (Kept.below (S := (fun k_ => P0_ k_)) (by repeat (first | (with_reducible first | exact HK.out | apply Kept.alloc | apply Kept.drewN | apply Kept.drew | refine Kept.setCell ?_ (.inr GW164.out) _) | exact HK.out)) hb)); (have n4_ := Aside0.mk (below_step (bn1 HB GE164) hb)); clear HO_0; clear HO_4; clear BK164; clear HK; clear HB; (have HO_0 := n0_); (have HO_4 := n1_); (have BK164 := n2_); (have HK := n3_); (have HB := n4_); clear n0_ n1_ n2_ n3_ n4_; (refine hK.out _ _ ⟨(blk_cell BK164.out 0).trans rfl, (blk_cell BK164.out 1).trans rfl, (blk_cell BK164.out 2).trans rfl, HS3_, HS4_, HS5_⟩ (fun hHeld => ?_)); clear hK K; refine norm_ (a' := ?_) ?_ ?_; rotate_left
           ·(show Act.put _ (some 29) _ = _); simp only [Act.put, List.setIfInBounds_toArray, List.set_cons_zero, List.set_cons_succ, i64_w, i32_w]; rfl
           refine pv_ 11 30 (mk_ 12 1) HT_ ?_; refine pv_ 12 31 (mk_ 13 0) HT_ ?_; refine done_ (done_of HT_.out (by kernel_rfl)) ?_; (try go_wp2); (have n0_ := Aside0.mk (Kd.R_drew HO_0.out)); (have n1_ := Aside0.mk (Kd.R_drew HO_4.out)); (have n2_ := Aside0.mk (blk_drew BK164.out)); (have n3_ := Aside0.mk (Kept.drew HK.out)); (have n4_ := Aside0.mk (below_drew1 HB.out)); clear HO_0; clear HO_4; clear BK164; clear HK; clear HB; (have HO_0 := n0_); (have HO_4 := n1_); (have BK164 := n2_); (have HK := n3_); (have HB := n4_); clear n0_ n1_ n2_ n3_ n4_; (have p167 : 0 ≤ (x5_2 : Int) := of_decide_eq_true (by assumption)); (have q167 : x5_2 < (t162.length : Int) := of_decide_eq_true (by assumption)); obtain ⟨ad167, e167, hx167_0, hx167_1, hx167_2⟩ := at_T50 (Kd.R_reads' HO_0.out).2.2 x5_2 p167 q167; obtain rfl : ad163 = ad167 := (by injection e167); (replace p167 := eq_true p167); (replace q167 := eq_true q167); (refine start_ (n := 10) (S := fun w' => w'.cell? ⟨gb164, 0, none⟩ = some (.int .i64 ((rd_T50 t162 x5_1).f0)) ∧ w'.cell? ⟨gb164, 1, none⟩ = some (.int .u64 ((rd_T50 t162 x5_1).f1)) ∧ w'.cell? ⟨gb164, 2, none⟩ = some (.int .i64 x165002_2) ∧ w'.cell? (ad163.add ((x5_2).toNat * 3)) = some (.int .i64 ((rd_T50 t162 x5_2).f0)) ∧ w'.cell? ⟨(ad163.add ((x5_2).toNat * 3)).block, (ad163.add ((x5_2).toNat * 3)).off + 1, none⟩ = some (.int .u64 ((rd_T50 t162 x5_2).f1)) ∧ w'.cell? ⟨(ad163.add ((x5_2).toNat * 3)).block, (ad163.add ((x5_2).toNat * 3)).off + 2, none⟩ = some (.int .i64 ((rd_T50 t162 x5_2).f2))) (ds := [9]) (mk_ 0 10) (by kernel_rfl) rfl rfl ⟨(blk_cell BK164.out 0).trans rfl, (blk_cell BK164.out 1).trans rfl, (blk_cell BK164.out 2).trans rfl, hx167_0, hx167_1, hx167_2⟩ (fun hHeld => ?_); refine with_tabW batch_summed.tab9 batch_summed.bits9 (fun HT_ HW_ => ?_)); generalize w15.drew = w16 at HO_0 HO_4 BK164 HK HB hx167_0 hx167_1 hx167_2 hHeld ⊢; refine pv_ 0 34 (mk_ 1 9) HT_ ?_; refine pv_ 2 36 (mb_ 10 5) HT_ ?_; refine pv_ 3 37 (mb_ 10 13) HT_ ?_; refine pv_ 4 38 (mb_ 10 29) HT_ ?_; refine pv_ 5 39 (mb_ 10 61) HT_ ?_; (refine tv_ 1 35 (mk_ 6 4) HT_ HW_ hHeld (hy := by rintro w' ⟨s0, s1, s2, s3, s4, s5⟩; go_simp; with_reducible rfl) (h := ?_)); (refine tv_ 6 40 (mk_ 7 3) HT_ HW_ hHeld (hy := by rintro w' ⟨s0, s1, s2, s3, s4, s5⟩; go_simp; with_reducible rfl) (h := ?_)); refine pv_ 7 41 (mk_ 8 2) HT_ ?_; refine pv_ 8 42 (mk_ 9 1) HT_ ?_; (refine last_ (i := 9) (N := none) (mk_ 10 0) rfl rfl (one_of HT_.out (by kernel_rfl)) (by decide) (fun K hK => ?_)); (have hs17 : w16.cell? ⟨gb164, 2, none⟩ = some (.int .i64 x165002_2) := (blk_cell BK164.out 2).trans rfl); (have hfs17 := blk_frozen BK164.out 2); refine skip_ (w1 := ?_) (by rfl) rfl ?_ ?_; rotate_left
           ·go_simp; rfl
           refine hK.out _ _ ?_; clear hK K; refine done_ (done_of HT_.out (by kernel_rfl)) ?_; (try go_wp2); go_roundg k2
           case measure => have := HK1.out; have := HK2.out; omega
           case rel => exact ⟨(wrap64 (x5_2 + 1)), (wrap64 (x165002_2 + ((rd_T50 t162 x5_2).f2))), qr_, H', ⟨by have := HK1.out; have := HK2.out; omega⟩, ⟨by (try simp only [hl0_1]); (with_reducible repeat (first | apply Kd.R_alloc | apply Kd.R_drewN | apply Kd.R_drew)); exact Kd.R_mono (Kd.R_far (p := ⟨gb164, 2, none⟩) (Kd.R_mono HO_0.out (fun k_ hk => (⟨hk, hk.2.2⟩ : _ ∧ k_ ≠ gb164))) (fun _ hk => hk.2) (.int .i64 (wrap64 (x165002_2 + ((rd_T50 t162 x5_2).f2))))) (fun _ hk => ⟨hk.1.1, ⟨hk.1.2.1, hk.1.2.2⟩⟩)⟩, ⟨by (try simp only [hl0_1]); (with_reducible repeat (first | apply Kd.R_alloc | apply Kd.R_drewN | apply Kd.R_drew)); exact Kd.R_mono (Kd.R_far (p := ⟨gb164, 2, none⟩) (Kd.R_mono HO_4.out (fun k_ hk => (⟨hk, hk.2.2⟩ : _ ∧ k_ ≠ gb164))) (fun _ hk => hk.2) (.int .i64 (wrap64 (x165002_2 + ((rd_T50 t162 x5_2).f2))))) (fun _ hk => ⟨hk.1.1, ⟨hk.1.2.1, hk.1.2.2⟩⟩)⟩, ⟨by (try simp only [hl0_1]); (with_reducible repeat (first | refine blk_drewN ?_ _ | refine blk_drew ?_ | refine blk_alloc ?_ _)); refine blk_put (cs := #[.int .i64 ((rd_T50 t162 x5_1).f0), .int .u64 ((rd_T50 t162 x5_1).f1), .int .i64 x165002_2]) ?_ 2 _ rfl; (with_reducible repeat (first | refine blk_drewN ?_ _ | refine blk_drew ?_ | refine blk_alloc ?_ _)); exact BK164.out⟩, ⟨by repeat (first | (with_reducible first | exact HK.out | apply Kept.alloc | apply Kept.drewN | apply Kept.drew | refine Kept.setCell ?_ (.inr GW164.out) _) | exact HK.out)⟩, ⟨bn1 HB GE164⟩⟩
          ·rw [if_neg c13] at H; (have c13b0 : (t166 == 0) = false := beq_eq_false_iff_ne.mpr c13); (have c13b1 : (t166 != 0) = true := bne_iff_ne.mpr c13); (have H' := Aside0.mk H); clear H; (try go_wp2); (have n0_ := Aside0.mk (Kd.R_drew HO_0.out)); (have n1_ := Aside0.mk (Kd.R_drew HO_4.out)); (have n2_ := Aside0.mk (blk_drew BK164.out)); (have n3_ := Aside0.mk (Kept.drew HK.out)); (have n4_ := Aside0.mk (below_drew1 HB.out)); clear HO_0; clear HO_4; clear BK164; clear HK; clear HB; (have HO_0 := n0_); (have HO_4 := n1_); (have BK164 := n2_); (have HK := n3_); (have HB := n4_); clear n0_ n1_ n2_ n3_ n4_; (have p165 : 0 ≤ (x5_2 : Int) := of_decide_eq_true (by assumption)); (have q165 : x5_2 < (t162.length : Int) := of_decide_eq_true (by assumption)); obtain ⟨ad165, e165, hx165_0, hx165_1, hx165_2⟩ := at_T50 (Kd.R_reads' HO_0.out).2.2 x5_2 p165 q165; obtain rfl : ad163 = ad165 := (by injection e165); (replace p165 := eq_true p165); (replace q165 := eq_true q165); (refine start_ (n := 13) (S := fun w' => w'.cell? ⟨gb164, 0, none⟩ = some (.int .i64 ((rd_T50 t162 x5_1).f0)) ∧ w'.cell? ⟨gb164, 1, none⟩ = some (.int .u64 ((rd_T50 t162 x5_1).f1)) ∧ w'.cell? ⟨gb164, 2, none⟩ = some (.int .i64 x165002_2) ∧ w'.cell? (ad163.add ((x5_2).toNat * 3)) = some (.int .i64 ((rd_T50 t162 x5_2).f0)) ∧ w'.cell? ⟨(ad163.add ((x5_2).toNat * 3)).block, (ad163.add ((x5_2).toNat * 3)).off + 1, none⟩ = some (.int .u64 ((rd_T50 t162 x5_2).f1)) ∧ w'.cell? ⟨(ad163.add ((x5_2).toNat * 3)).block, (ad163.add ((x5_2).toNat * 3)).off + 2, none⟩ = some (.int .i64 ((rd_T50 t162 x5_2).f2))) (ds := []) (mk_ 0 13) (by kernel_rfl) rfl rfl ⟨(blk_cell BK164.out 0).trans rfl, (blk_cell BK164.out 1).trans rfl, (blk_cell BK164.out 2).trans rfl, hx165_0, hx165_1, hx165_2⟩ (fun hHeld => ?_); refine with_tabW batch_summed.tab7 batch_summed.bits7 (fun HT_ HW_ => ?_)); generalize wr.drew = w18 at HO_0 HO_4 BK164 HK HB hx165_0 hx165_1 hx165_2 hHeld ⊢; refine pv_ 0 19 (mk_ 1 12) HT_ ?_; refine pv_ 1 20 (mk_ 2 11) HT_ ?_; refine pv_ 2 21 (mk_ 3 10) HT_ ?_; refine pv_ 3 22 (mk_ 4 9) HT_ ?_; refine pv_ 4 23 (mk_ 5 8) HT_ ?_; refine pv_ 5 24 (mk_ 6 7) HT_ ?_; refine pv_ 6 25 (mk_ 7 6) HT_ ?_; refine pv_ 7 26 (mk_ 8 5) HT_ ?_; (refine tv_ 8 27 (mk_ 9 4) HT_ HW_ hHeld (hy := by rintro w' ⟨s0, s1, s2, s3, s4, s5⟩; go_simp; with_reducible rfl) (h := ?_)); (refine tv_ 9 28 (mk_ 10 3) HT_ HW_ hHeld (hy := by rintro w' ⟨s0, s1, s2, s3, s4, s5⟩; go_simp; with_reducible rfl) (h := ?_)); (refine one_ (i := 10) (N := some 29) (mk_ 11 2) rfl rfl (one_of HT_.out (by kernel_rfl)) (by decide) (fun K hK => ?_)); refine goes_ Try.func53 (by kernel_rfl) rfl #[.agg #[.int .i64 ((rd_T50 t162 x5_2).f0), .int .u64 ((rd_T50 t162 x5_2).f1), .int .i64 ((rd_T50 t162 x5_2).f2)], .agg #[.int .i64 ((rd_T50 t162 x5_1).f0), .int .u64 ((rd_T50 t162 x5_1).f1), .int .i64 x165002_2]] (by rfl) rfl rfl am_ ?_; (with_reducible refine (batch_order.calls k2 ((rd_T50 t162 x5_2).f0) ((rd_T50 t162 x5_2).f1) ((rd_T50 t162 x5_2).f2) ((rd_T50 t162 x5_1).f0) ((rd_T50 t162 x5_1).f1) x165002_2 t166 _ A12.out).mono ?_)
           rintro e w19 ⟨rfl, hb⟩; (have HS3_ := (hb.cell (World.block_lt_of_cell? _ _ (hHeld.2.2.2.1))).trans (hHeld.2.2.2.1)); (have HS4_ := (hb.cell (World.block_lt_of_cell? _ _ (hHeld.2.2.2.2.1))).trans (hHeld.2.2.2.2.1)); (have HS5_ := (hb.cell (World.block_lt_of_cell? _ _ (hHeld.2.2.2.2.2))).trans (hHeld.2.2.2.2.2)); refine ⟨_, rfl, ?_⟩; (have n0_ := Aside0.mk (Kd.R_below (rn HO_0) hb)); (have n1_ := Aside0.mk (Kd.R_below (rn HO_4) hb)); (have n2_ := Aside0.mk (bkb BK164 hb)); (have n3_ := Aside0.mk (Kept.below (S := (fun k_ => P0_ k_)) (by repeat (first | (with_reducible first | exact HK.out | apply Kept.alloc | apply Kept.drewN | apply Kept.drew | refine Kept.setCell ?_ (.inr GW164.out) _) | exact HK.out)) hb)); (have n4_ := Aside0.mk (below_step (bn1 HB GE164) hb)); clear HO_0; clear HO_4; clear BK164; clear HK; clear HB; (have HO_0 := n0_); (have HO_4 := n1_); (have BK164 := n2_); (have HK := n3_); (have HB := n4_); clear n0_ n1_ n2_ n3_ n4_; (refine hK.out _ _ ⟨(blk_cell BK164.out 0).trans rfl, (blk_cell BK164.out 1).trans rfl, (blk_cell BK164.out 2).trans rfl, HS3_, HS4_, HS5_⟩ (fun hHeld => ?_)); clear hK K; refine norm_ (a' := ?_) ?_ ?_; rotate_left
           ·(show Act.put _ (some 29) _ = _); simp only [Act.put, List.setIfInBounds_toArray, List.set_cons_zero, List.set_cons_succ, i64_w, i32_w]; rfl
           refine pv_ 11 30 (mk_ 12 1) HT_ ?_; refine pv_ 12 31 (mk_ 13 0) HT_ ?_; refine done_ (done_of HT_.out (by kernel_rfl)) ?_; (try go_wp2); go_meet
           case rel => exact ⟨_, (x5_2), (x165002_2), qr_, H', ⟨by have := HK1.out; have := HK2.out; first | omega | exact Nat.le_refl _⟩, ⟨by (try simp only [hl0_1]); (with_reducible repeat (first | apply Kd.R_alloc | apply Kd.R_drewN | apply Kd.R_drew)); exact HO_0.out⟩, ⟨by (try simp only [hl0_1]); (with_reducible repeat (first | apply Kd.R_alloc | apply Kd.R_drewN | apply Kd.R_drew)); exact HO_4.out⟩, ⟨by (try simp only [hl0_1]); (with_reducible repeat (first | refine blk_drewN ?_ _ | refine blk_drew ?_ | refine blk_alloc ?_ _)); exact BK164.out⟩, ⟨by repeat (first | (with_reducible first | exact HK.out | apply Kept.alloc | apply Kept.drewN | apply Kept.drew | refine Kept.setCell ?_ (.inr GW164.out) _) | exact HK.out)⟩, ⟨bn1 HB GE164⟩⟩
         ·rw [if_neg c11] at H; (exact absurd H (by simp))
        ·rw [if_neg c10] at H; (have c10b0 : decide (x5_2 < (t162.length : Int)) = false := decide_eq_false c10); clear c10; (first | rw [c10b0] | (simp only [i64_w, i32_w]; rw [c10b0]) | skip); (have H' := Aside0.mk H); clear H; (try go_wp2); (have n0_ := Aside0.mk (Kd.R_drew HO_0.out)); (have n1_ := Aside0.mk (Kd.R_drew HO_4.out)); (have n2_ := Aside0.mk (blk_drew BK164.out)); (have n3_ := Aside0.mk (Kept.drew HK.out)); (have n4_ := Aside0.mk (below_drew1 HB.out)); clear HO_0; clear HO_4; clear BK164; clear HK; clear HB; (have HO_0 := n0_); (have HO_4 := n1_); (have BK164 := n2_); (have HK := n3_); (have HB := n4_); clear n0_ n1_ n2_ n3_ n4_; (refine start_ (n := 13) (S := fun w' => True) (ds := []) (mk_ 0 13) (by kernel_rfl) rfl rfl trivial (fun hHeld => ?_); refine with_tabW batch_summed.tab7 batch_summed.bits7 (fun HT_ HW_ => ?_)); generalize wr.drew = w20 at HO_0 HO_4 BK164 HK HB hHeld ⊢; refine pv_ 0 19 (mk_ 1 12) HT_ ?_; refine pv_ 1 20 (mk_ 2 11) HT_ ?_; refine pv_ 2 21 (mk_ 3 10) HT_ ?_; refine pv_ 3 22 (mk_ 4 9) HT_ ?_; refine pv_ 4 23 (mk_ 5 8) HT_ ?_; refine pu_ 5 24 (mk_ 6 7) HT_ ?_; refine pu_ 6 25 (mk_ 7 6) HT_ ?_; refine pu_ 7 26 (mk_ 8 5) HT_ ?_; refine pu_ 8 27 (mk_ 9 4) HT_ ?_; refine pu_ 9 28 (mk_ 10 3) HT_ ?_; refine pu_ 10 29 (mk_ 11 2) HT_ ?_; refine pu_ 11 30 (mk_ 12 1) HT_ ?_; refine pv_ 12 31 (mk_ 13 0) HT_ ?_; refine done_ (done_of HT_.out (by kernel_rfl)) ?_; (try go_wp2); go_meet
         case rel => exact ⟨_, (x5_2), (x165002_2), qr_, H', ⟨by have := HK1.out; have := HK2.out; first | omega | exact Nat.le_refl _⟩, ⟨by (try simp only [hl0_1]); (with_reducible repeat (first | apply Kd.R_alloc | apply Kd.R_drewN | apply Kd.R_drew)); exact HO_0.out⟩, ⟨by (try simp only [hl0_1]); (with_reducible repeat (first | apply Kd.R_alloc | apply Kd.R_drewN | apply Kd.R_drew)); exact HO_4.out⟩, ⟨by (try simp only [hl0_1]); (with_reducible repeat (first | refine blk_drewN ?_ _ | refine blk_drew ?_ | refine blk_alloc ?_ _)); exact BK164.out⟩, ⟨by repeat (first | (with_reducible first | exact HK.out | apply Kept.alloc | apply Kept.drewN | apply Kept.drew | refine Kept.setCell ?_ (.inr GW164.out) _) | exact HK.out)⟩, ⟨bn1 HB GE164⟩⟩
     case rest =>
      clear HC7; obtain ⟨kq, x5_6, x165002_6, rfl, HA, HJ6, HO_0, HO_4, BK164, HK, HB⟩ := hcut
      cases kq with
      | zero => exact absurd HA.out (by simp [batch_summed.j2])
      | succ kj6 =>
       (have H := HA.out); clear HA; simp only [batch_summed.j2] at H; (replace H := Option.bind_eq_some_iff.mp H); obtain ⟨t168, A210, H⟩ := H; (replace H : (if t168 = true then (if x165002_6 = 0 then (batch_summed.l0 kj6 t162 x4_1 x5_6) else (if x4_1.length < 5864062014805 then (batch_summed.l0 kj6 t162 (x4_1 ++ [(⟨((rd_T50 t162 x5_1).f0), ((rd_T50 t162 x5_1).f1), x165002_6⟩ : S50)]) x5_6) else (none))) else (some (([] : List (S50)), 10, t162))) = some (r1, r2, r3) := H); (have A21 := Aside0.mk A210); clear A210; by_cases c22 : t168 = true
       ·subst c22; (have H1 : (if x165002_6 = 0 then (batch_summed.l0 kj6 t162 x4_1 x5_6) else (if x4_1.length < 5864062014805 then (batch_summed.l0 kj6 t162 (x4_1 ++ [(⟨((rd_T50 t162 x5_1).f0), ((rd_T50 t162 x5_1).f1), x165002_6⟩ : S50)]) x5_6) else (none))) = some (r1, r2, r3) := by rw [if_pos rfl] at H; exact H); clear H; (have H := H1); clear H1; by_cases c23 : x165002_6 = 0
        ·rw [if_pos c23] at H; (have c23b0 : (x165002_6 == 0) = true := beq_iff_eq.mpr c23); (have c23b1 : (x165002_6 != 0) = false := bne_eq_false_iff_eq.mpr c23); clear c23; (have H' := Aside0.mk H); clear H; (have hcz24_0 : wc.cell? ⟨gb164, 0, none⟩ = some (.int .i64 ((rd_T50 t162 x5_1).f0)) := (blk_cell BK164.out 0).trans rfl); (have hcz24_1 : wc.cell? ⟨gb164, 1, none⟩ = some (.int .u64 ((rd_T50 t162 x5_1).f1)) := (blk_cell BK164.out 1).trans rfl); (have hcz24_2 : wc.cell? ⟨gb164, 2, none⟩ = some (.int .i64 x165002_6) := (blk_cell BK164.out 2).trans rfl); (have hfz24_0 := blk_frozen BK164.out 0); (have hfz24_1 := blk_frozen BK164.out 1); (have hfz24_2 := blk_frozen BK164.out 2); (go_wp2_with (first | ((with_reducible refine gate_callee (f := 73) rfl ?_); refine gl (some 46) Try.func73 #[.int .i64 x165002_6] ?_; (with_reducible refine (batch_within.calls x165002_6 true _ A21.out).mono ?_); rintro e w' ⟨rfl, ⟨nd, rfl⟩⟩; refine ⟨_, rfl, ?_⟩))); (try simp only [← hl0_1]); go_roundg kj6
         case measure => have := HK1.out; have := HJ6.out; omega
         case rel => exact ⟨(x4_1), (x5_6), qr_, H', ⟨by have := HK1.out; have := HJ6.out; omega⟩, ⟨by (try simp only [hl0_1]); (with_reducible repeat (first | apply Kd.R_alloc | apply Kd.R_drewN | apply Kd.R_drew)); exact Kd.R_mono HO_0.out (fun _ hk => ⟨hk.1, hk.2.1⟩)⟩, ⟨by (try simp only [hl0_1]); (with_reducible repeat (first | apply Kd.R_alloc | apply Kd.R_drewN | apply Kd.R_drew)); exact Kd.R_mono HO_4.out (fun _ hk => ⟨hk.1, hk.2.1⟩)⟩, ⟨by repeat (first | (with_reducible first | exact HK.out | apply Kept.alloc | apply Kept.drewN | apply Kept.drew | refine Kept.setCell ?_ (.inr GW164.out) _) | exact HK.out)⟩, ⟨bn1 HB GE164⟩⟩
        ·rw [if_neg c23] at H; (have c23b0 : (x165002_6 == 0) = false := beq_eq_false_iff_ne.mpr c23); (have c23b1 : (x165002_6 != 0) = true := bne_iff_ne.mpr c23); by_cases c25 : x4_1.length < 5864062014805
         ·rw [if_pos c25] at H; (have LMc25 := Aside0.mk c25); clear c25; obtain ⟨y169, hy169⟩ : ∃ y_ : List (S50), y_ = (x4_1 ++ [(⟨((rd_T50 t162 x5_1).f0), ((rd_T50 t162 x5_1).f1), x165002_6⟩ : S50)]) := ⟨_, rfl⟩; (replace H : (batch_summed.l0 kj6 t162 y169 x5_6) = some (r1, r2, r3) := by first | (rw [hy169]; with_reducible exact H) | (have H2_ := (Option.bind_some _ _).symm.trans H; rw [hy169]; with_reducible exact H2_) | (have H2_ := (Option.bind_some _ _).symm.trans H; with_reducible exact H2_) | with_reducible exact H | (rw [hy169]; exact H) | exact H); (have Ny169 := Aside0.mk hy169); clear hy169; (have H' := Aside0.mk H); clear H; (have hcz26_0 : wc.cell? ⟨gb164, 0, none⟩ = some (.int .i64 ((rd_T50 t162 x5_1).f0)) := (blk_cell BK164.out 0).trans rfl); (have hcz26_1 : wc.cell? ⟨gb164, 1, none⟩ = some (.int .u64 ((rd_T50 t162 x5_1).f1)) := (blk_cell BK164.out 1).trans rfl); (have hcz26_2 : wc.cell? ⟨gb164, 2, none⟩ = some (.int .i64 x165002_6) := (blk_cell BK164.out 2).trans rfl); (have hfz26_0 := blk_frozen BK164.out 0); (have hfz26_1 := blk_frozen BK164.out 1); (have hfz26_2 := blk_frozen BK164.out 2); (go_wp2_with (first | ((with_reducible refine gate_callee (f := 73) rfl ?_); refine gl (some 46) Try.func73 #[.int .i64 x165002_6] ?_; (with_reducible refine (batch_within.calls x165002_6 true _ A21.out).mono ?_); rintro e w' ⟨rfl, ⟨nd, rfl⟩⟩; refine ⟨_, rfl, ?_⟩) | ((with_reducible refine gate_builtin (b := .append) (xs := #[.tmp 52, .tmp 54]) rfl ?_); at_builtin; refine Kd.R_append k50 (w0 := w0) w0.heap.size rfl (.tmp 52) (.tmp 54) 25 50 (.agg #[(.int .i64 0), (.int .u64 0), (.int .i64 0)]) 24 rfl Try.underlying25 info50 rfl (by decide) (by omega) u4 x4_1 (⟨((rd_T50 t162 x5_1).f0), ((rd_T50 t162 x5_1).f1), x165002_6⟩ : S50) [.int .i64 ((rd_T50 t162 x5_1).f0), .int .u64 ((rd_T50 t162 x5_1).f1), .int .i64 x165002_6] (fun k_ => (P0_ k_ ∨ w.heap.size ≤ k_) ∧ some k_ ≠ (.slice (some ad163) t162.length co3 : Value).ownBlock ∧ k_ ≠ gb164) (fun _ => False) rfl rfl ?aP (fun _ hk => hk.elim) ?aF ?aO ?aB ?aS ?aL ?_; (case aP => exact k50_mkM _ _ _ (⟨((rd_T50 t162 x5_1).f0), ((rd_T50 t162 x5_1).f1), x165002_6⟩ : S50)); (case aB => exact (bn1 HB GE164)); (case aF => exact (fun k_ hk => ⟨(.inr (Nat.le_trans (by first | exact HK.out.1 | exact (show Kept w _ (fun k_ => P0_ k_) from by repeat (first | (with_reducible first | exact HK.out | apply Kept.alloc | apply Kept.drewN | apply Kept.drew | refine Kept.setCell ?_ (.inr GW164.out) _) | exact HK.out)).1) hk)), Kd.fresh' (Kd.R_lt (rn HO_0)) k_ hk, Kd.freshB (g := gb164) (o := .cells #[.int .i64 ((rd_T50 t162 x5_1).f0), .int .u64 ((rd_T50 t162 x5_1).f1), .int .i64 x165002_6] 50 (0, 0)) (bk BK164) k_ hk⟩)); (case aO => exact (rn HO_4)); (case aS => exact (below_size (bn1 HB GE164))); (case aL => have := LMc25.out; omega); intro v170 w27 ho hb hg hat; rw [← Ny169.out] at ho; have n0_ := Aside0.mk (Kd.R_after (ok := (fun k_ => (P0_ k_ ∨ w.heap.size ≤ k_) ∧ k_ ≠ gb164)) (by (with_reducible repeat (first | apply Kd.R_alloc | apply Kd.R_drewN | apply Kd.R_drew)); exact Kd.R_mono HO_0.out (fun _ hk => ⟨⟨hk.1, hk.2.2⟩, hk.2.1⟩)) hg hat); have n1_ := Aside0.mk (blk_grown (g := gb164) (o := .cells #[.int .i64 ((rd_T50 t162 x5_1).f0), .int .u64 ((rd_T50 t162 x5_1).f1), .int .i64 x165002_6] 50 (0, 0)) (bk BK164) hg (Kd.R_away HO_4.out (fun _ hk => hk.2.2))); have n2_ := Aside0.mk (hb); have n3_ := Aside0.mk (Kept.of_grown (S := (fun k_ => P0_ k_)) hg (by repeat (first | (with_reducible first | exact HK.out | apply Kept.alloc | apply Kept.drewN | apply Kept.drew | refine Kept.setCell ?_ (.inr GW164.out) _) | exact HK.out)) (fun k_ e_ => (HO_4.out.1 k_ e_).1)); have n4_ := Aside0.mk (ho); clear HO_0; clear BK164; clear HB; clear HK; clear HO_4; have HO_0 := n0_; have BK164 := n1_; have HB := n2_; have HK := n3_; have HO171 := n4_; clear n0_ n1_ n2_ n3_ n4_; clear ho hb hg hat)))
          (try simp only [← hl0_1]); go_roundg kj6
          case measure => have := HK1.out; have := HJ6.out; omega
          case rel => exact ⟨(y169), (x5_6), qr_, H', ⟨by have := HK1.out; have := HJ6.out; omega⟩, ⟨by (try simp only [hl0_1]); (with_reducible repeat (first | apply Kd.R_alloc | apply Kd.R_drewN | apply Kd.R_drew)); exact Kd.R_mono HO_0.out (fun _ hk => ⟨hk.1.1, hk.2⟩)⟩, ⟨by (try simp only [hl0_1]); (with_reducible repeat (first | apply Kd.R_alloc | apply Kd.R_drewN | apply Kd.R_drew)); exact Kd.R_mono HO171.out (fun _ hk => ⟨hk.1, hk.2.1⟩)⟩, ⟨by repeat (first | (with_reducible first | exact HK.out | apply Kept.alloc | apply Kept.drewN | apply Kept.drew | refine Kept.setCell ?_ (.inr GW164.out) _) | exact HK.out)⟩, ⟨bn1 HB GE164⟩⟩
         ·rw [if_neg c25] at H; (exact absurd H (by simp))
       ·(replace c22 := Bool.eq_false_iff.mpr c22); subst c22; (have H1 : (some (([] : List (S50)), 10, t162)) = some (r1, r2, r3) := by rw [if_neg (show ¬ (false = true) by decide)] at H; exact H); clear H; (have H := H1); clear H1; simp only [Option.some.injEq, Prod.mk.injEq] at H; obtain ⟨rfl, rfl, rfl⟩ := H; (have hcz28_0 : wc.cell? ⟨gb164, 0, none⟩ = some (.int .i64 ((rd_T50 t162 x5_1).f0)) := (blk_cell BK164.out 0).trans rfl); (have hcz28_1 : wc.cell? ⟨gb164, 1, none⟩ = some (.int .u64 ((rd_T50 t162 x5_1).f1)) := (blk_cell BK164.out 1).trans rfl); (have hcz28_2 : wc.cell? ⟨gb164, 2, none⟩ = some (.int .i64 x165002_6) := (blk_cell BK164.out 2).trans rfl); (have hfz28_0 := blk_frozen BK164.out 0); (have hfz28_1 := blk_frozen BK164.out 1); (have hfz28_2 := blk_frozen BK164.out 2); (go_wp2_with (first | ((with_reducible refine gate_callee (f := 73) rfl ?_); refine gl (some 46) Try.func73 #[.int .i64 x165002_6] ?_; (with_reducible refine (batch_within.calls x165002_6 false _ A21.out).mono ?_); rintro e w' ⟨rfl, ⟨nd, rfl⟩⟩; refine ⟨_, rfl, ?_⟩))); go_ret2; (exact ⟨_, by first | rfl | (simp [errW_none, errW_some] <;> rfl) | (simp [*, errW_none, errW_some] <;> rfl), (by first | exact (by first | exact Kd.R_nil _ _ _ _ _ | exact Kd.N_nil _ _ _ _ _ | exact Kd.V_nil _ _ _ _ _ | exact Kd.Q_nil _ _ _ _ _ | exact Kd.S_nil _ _ _ _ _) | (simp only [hl0_1]; exact (by first | exact Kd.R_nil _ _ _ _ _ | exact Kd.N_nil _ _ _ _ _ | exact Kd.V_nil _ _ _ _ _ | exact Kd.Q_nil _ _ _ _ _ | exact Kd.S_nil _ _ _ _ _))), (by first | exact (by (with_reducible repeat (first | apply Kd.R_alloc | apply Kd.R_drewN | apply Kd.R_drew)); exact Kd.R_mono HO_0.out (fun _ hk => hk.1)) | (simp only [hl0_1]; exact (by (with_reducible repeat (first | apply Kd.R_alloc | apply Kd.R_drewN | apply Kd.R_drew)); exact Kd.R_mono HO_0.out (fun _ hk => hk.1)))), bn1 HB GE164, by repeat (first | (with_reducible first | exact HK.out | apply Kept.alloc | apply Kept.drewN | apply Kept.drew | refine Kept.setCell ?_ (.inr GW164.out) _) | exact HK.out)⟩)
    ·rw [if_neg c6] at H; (exact absurd H (by simp))
   ·rw [if_neg c5] at H; (have c5b0 : decide (x5_1 < (t162.length : Int)) = false := decide_eq_false c5); clear c5; simp only [Option.some.injEq, Prod.mk.injEq] at H; obtain ⟨rfl, rfl, rfl⟩ := H; go_wp2; go_ret2; (exact ⟨_, by first | rfl | (simp [errW_none, errW_some] <;> rfl) | (simp [*, errW_none, errW_some] <;> rfl), (by first | exact (rn HO_4) | (simp only [hl0_1]; exact (rn HO_4))), (by first | exact (by (with_reducible repeat (first | apply Kd.R_alloc | apply Kd.R_drewN | apply Kd.R_drew)); exact Kd.R_mono HO_0.out (fun _ hk => hk.1)) | (simp only [hl0_1]; exact (by (with_reducible repeat (first | apply Kd.R_alloc | apply Kd.R_drewN | apply Kd.R_drew)); exact Kd.R_mono HO_0.out (fun _ hk => hk.1)))), bn HB, by repeat (first | (with_reducible first | exact HK.out | apply Kept.alloc | apply Kept.drewN | apply Kept.drew) | exact HK.out)⟩)
def slices_GrowNil.f (a1 : Int) : Option (List S50) := if 0 ≤ a1 then (if a1 < 5864062014805 then some [] else none) else none
theorem slices_GrowNil.zero (W : World) (base : Nat) : Kd.M k50 W base (fun _ => False) z50 (((.agg #[(.int .i64 0), (.int .u64 0), (.int .i64 0)]) : Value).cells.toList) := by
 show Kd.M k50 W base (fun _ => False) z50 [.int .i64 0, .int .u64 0, .int .i64 0]
 exact k50_mkM _ _ _ z50
set_option maxHeartbeats 400000 in
theorem slices_GrowNil.calls (a1 : Int) (r : List S50) (w : World) (h : slices_GrowNil.f a1 = some r) :
  Calls Try.prog 78 #[.slice none 0 0, .int .i64 a1] w fun e w' => ∃ v0_ : Value, e = .returned v0_ ∧ Kd.R k50 50 w' w.heap.size (fun _ => True) v0_ r ∧ Below w.heap.size w w' := by
 unfold slices_GrowNil.f at h
 by_cases h0 : 0 ≤ a1
 ·rw [if_pos h0] at h
  by_cases hlim : a1 < 5864062014805
  ·rw [if_pos hlim] at h
   obtain rfl := Option.some.inj h
   clear h
   by_cases hz : a1 = 0
   ·subst hz
    go_enter Try.func78, Try.ntmps78
    go_wp2
    go_ret
    exact ⟨_, rfl, Kd.R_nil _ _ _ _ _, Below.refl _ _⟩
   ·have hpos : 0 < a1 := by omega
    clear hz
    have HP := Aside0.mk hpos
    have HL := Aside0.mk hlim
    go_enter Try.func78, Try.ntmps78
    go_wp2_with (first | ((with_reducible refine gate_builtin (b := .append) (xs := #[.tmp 20, .tmp 21]) rfl ?_); at_builtin; refine Kd.R_append_zeros k50 (w0 := w) w.heap.size rfl (.tmp 20) (.tmp 21) 25 3 50 (.agg #[(.int .i64 0), (.int .u64 0), (.int .i64 0)]) 24 rfl Try.underlying25 Try.underlying3 info50 rfl (by decide) (by omega) (.slice none 0 0) [] z50 a1 (fun _ => True) rfl rfl (slices_GrowNil.zero _ _) (fun _ _ => trivial) (Kd.R_nil _ _ _ _ _) (by have := HP.out; omega) (Below.refl _ _) (Nat.le_refl _) (by have := HL.out; have := HP.out; simp only [List.length_nil]; omega) ?_; intro v1 w1 ho hb hg hat; obtain ⟨A1, c1, e1⟩ := Kd.R_slice ho; subst e1; have HO := Aside0.mk ho; have HB := Aside0.mk hb; clear ho hb hg hat))
    go_ret
    exact ⟨_, rfl, by have := Kd.R_take HO.out (m := 0) (Nat.zero_le _); rwa [List.take_zero] at this, HB.out⟩
  ·rw [if_neg hlim] at h
   cases h
 ·rw [if_neg h0] at h
  cases h
/-! ### batch_Change_57: function 57 -/
mutual
def batch_Change_57.l0 : Nat → List (List (S50)) → Int → List (List (S50)) → Int → Int → Option ((List (S50)))
 | 0, _, _, _, _, _ => none
 | k + 1, x0, x3, x9, x10, x11 => if x11 < x10 then (if 0 ≤ x11 then (if x11 < (x9.length : Int) then (if (wrap64 (x3 + ((rd_L4 x9 x11).length : Int))) < 0 then (none) else (batch_Change_57.l0 k x0 (wrap64 (x3 + ((rd_L4 x9 x11).length : Int))) x9 x10 (wrap64 (x11 + 1)))) else (none)) else (none)) else ((slices_GrowNil.f x3).bind fun t337 => (batch_Change_57.l1 k t337 x0 (x0.length : Int) 0))
def batch_Change_57.l1 : Nat → List (S50) → List (List (S50)) → Int → Int → Option ((List (S50)))
 | 0, _, _, _, _ => none
 | k + 1, x6, x25, x26, x27 => if x27 < x26 then (if 0 ≤ x27 then (if x27 < (x25.length : Int) then (if x6.length + (rd_L4 x25 x27).length < 5864062014805 then (batch_Change_57.l1 k (x6 ++ (rd_L4 x25 x27)) x25 x26 (wrap64 (x27 + 1))) else (none)) else (none)) else (none)) else (some x6)
end
def batch_Change_57.f (k : Nat) (l0 : List (List (S50))) : Option ((List (S50))) := batch_Change_57.l0 k l0 0 l0 (l0.length : Int) 0
set_option maxHeartbeats 8000000 in
set_option maxRecDepth 100000 in
theorem batch_Change_57.calls (k : Nat) (A0 : Option Addr) (c0 : Nat) (l0 : List (List (S50))) (r : List (S50)) (w : World) (hr0 : Kd.C (Kd.slice 50 k50) w A0 l0.length l0) (hc0 : l0.length ≤ c0) (h : batch_Change_57.f k l0 = some r) :
  Calls Try.prog 57 #[.slice A0 l0.length c0] w fun e w' => ∃ v0_ : Value, e = .returned (v0_) ∧ Kd.R k50 50 w' w.heap.size (fun _ => True) v0_ r ∧ Below w.heap.size w w' := by
 (have HR0 := Aside0.mk hr0); (have HC0 := Aside0.mk hc0); clear hr0 hc0; (have HB := Aside0.mk (Below.refl w.heap.size w)); (have H : (batch_Change_57.l0 k l0 0 l0 (l0.length : Int) 0) = some r := h); clear h; (have H' := Aside0.mk H); clear H; go_enter Try.func57, Try.ntmps57; go_wp2; (go_loopg [3, 11] k (fun kq v3 v11 w' => ∃ (x3_1 : Int) (x11_1 : Int), v3 = .int .i64 x3_1 ∧ v11 = .int .i64 x11_1 ∧ Aside0 (batch_Change_57.l0 kq l0 x3_1 l0 (l0.length : Int) x11_1 = some r) ∧ Aside0 (kq ≤ k) ∧ Aside0 (Below w.heap.size w w')))
 case atStart => exact ⟨(0), (0), qr_, qr_, H', ⟨Nat.le_refl _⟩, ⟨bn HB⟩⟩
 case round =>
  clear H'; obtain ⟨x3_1, x11_1, rfl, rfl, HA, HK1, HB⟩ := hrel
  cases gk with
  | zero => exact absurd HA.out (by simp [batch_Change_57.l0])
  | succ k1 =>
   (have H := HA.out); clear HA; simp only [batch_Change_57.l0] at H; by_cases c2 : x11_1 < (l0.length : Int)
   ·rw [if_pos c2] at H; (have c2b0 : decide (x11_1 < (l0.length : Int)) = true := decide_eq_true c2); clear c2; by_cases c3 : 0 ≤ x11_1
    ·rw [if_pos c3] at H; (have c3b0 : decide (0 ≤ x11_1) = true := decide_eq_true c3); clear c3; by_cases c4 : x11_1 < (l0.length : Int)
     ·rw [if_pos c4] at H; (have c4b0 : decide (x11_1 < (l0.length : Int)) = true := decide_eq_true c4); clear c4; by_cases c5 : (wrap64 (x3_1 + ((rd_L4 l0 x11_1).length : Int))) < 0
      ·rw [if_pos c5] at H; (exact absurd H (by simp))
      ·rw [if_neg c5] at H; (have c5b0 : decide ((wrap64 (x3_1 + ((rd_L4 l0 x11_1).length : Int))) < 0) = false := decide_eq_false c5); clear c5; (have H' := Aside0.mk H); clear H; (have p336 : 0 ≤ (x11_1 : Int) := of_decide_eq_true (by assumption)); (have q336 : x11_1 < (l0.length : Int) := of_decide_eq_true (by assumption)); obtain ⟨ad336, A336_0, c336_0, e336, hx336_0, hl336_0, hi336_0⟩ := at_L4 HR0.out x11_1 p336 q336; cases e336; (replace hx336_0 := ct HB hx336_0); (have HR336_0 := Aside0.mk hi336_0); (have HC336_0 := Aside0.mk hl336_0); clear hi336_0 hl336_0; (replace p336 := eq_true p336); (replace q336 := eq_true q336); go_wp2; go_roundg k1
       case measure => have := HK1.out; omega
       case rel => exact ⟨(wrap64 (x3_1 + ((rd_L4 l0 x11_1).length : Int))), (wrap64 (x11_1 + 1)), qr_, qr_, H', ⟨by have := HK1.out; omega⟩, ⟨bn HB⟩⟩
     ·rw [if_neg c4] at H; (exact absurd H (by simp))
    ·rw [if_neg c3] at H; (exact absurd H (by simp))
   ·rw [if_neg c2] at H; (have c2b0 : decide (x11_1 < (l0.length : Int)) = false := decide_eq_false c2); clear c2; (replace H := Option.bind_eq_some_iff.mp H); obtain ⟨t337, A60, H⟩ := H; (replace H : (batch_Change_57.l1 k1 t337 l0 (l0.length : Int) 0) = some r := H); (have A6 := Aside0.mk A60); clear A60; (have H' := Aside0.mk H); clear H; (go_wp2_with (first | ((with_reducible refine gate_callee (f := 78) rfl ?_); refine gl (some 24) Try.func78 #[.slice none 0 0, .int .i64 x3_1] ?_; (with_reducible refine (slices_GrowNil.calls  x3_1 t337 _ A6.out).mono ?_); rintro e w7 ⟨v338, rfl, ho0, hb⟩; refine ⟨_, rfl, ?_⟩; have n0_ := Aside0.mk (Kd.R_lower ho0 (below_size (bn HB))); have HO339 := n0_; replace HB := bb HB hb; clear n0_; (try clear hb); (try clear ho0)))); (go_loopg [6, 27] k1 (fun kq v6 v27 w' => ∃ (x6_2 : List (S50)) (x27_2 : Int), v27 = .int .i64 x27_2 ∧ Aside0 (batch_Change_57.l1 kq x6_2 l0 (l0.length : Int) x27_2 = some r) ∧ Aside0 (kq ≤ k1) ∧ Aside0 (Kd.R k50 50 w' w.heap.size (fun _ => True) v6 x6_2) ∧ Aside0 (Below w.heap.size w w')))
    case atStart => exact ⟨(t337), (0), qr_, H', ⟨Nat.le_refl _⟩, ⟨rn HO339⟩, ⟨bn HB⟩⟩
    case round =>
     clear H'; obtain ⟨x6_2, x27_2, rfl, HA, HK2, HO_6, HB⟩ := hrel
     cases gk with
     | zero => exact absurd HA.out (by simp [batch_Change_57.l1])
     | succ k2 =>
      (have H := HA.out); clear HA; simp only [batch_Change_57.l1] at H; by_cases c8 : x27_2 < (l0.length : Int)
      ·rw [if_pos c8] at H; (have c8b0 : decide (x27_2 < (l0.length : Int)) = true := decide_eq_true c8); clear c8; by_cases c9 : 0 ≤ x27_2
       ·rw [if_pos c9] at H; (have c9b0 : decide (0 ≤ x27_2) = true := decide_eq_true c9); clear c9; by_cases c10 : x27_2 < (l0.length : Int)
        ·rw [if_pos c10] at H; (have c10b0 : decide (x27_2 < (l0.length : Int)) = true := decide_eq_true c10); clear c10; by_cases c11 : x6_2.length + (rd_L4 l0 x27_2).length < 5864062014805
         ·rw [if_pos c11] at H; (have LMc11 := Aside0.mk c11); clear c11; obtain ⟨y341, hy341⟩ : ∃ y_ : List (S50), y_ = (x6_2 ++ (rd_L4 l0 x27_2)) := ⟨_, rfl⟩; (replace H : (batch_Change_57.l1 k2 y341 l0 (l0.length : Int) (wrap64 (x27_2 + 1))) = some r := by first | (rw [hy341]; with_reducible exact H) | (have H2_ := (Option.bind_some _ _).symm.trans H; rw [hy341]; with_reducible exact H2_) | (have H2_ := (Option.bind_some _ _).symm.trans H; with_reducible exact H2_) | with_reducible exact H | (rw [hy341]; exact H) | exact H); (have Ny341 := Aside0.mk hy341); clear hy341; (have H' := Aside0.mk H); clear H; (have p340 : 0 ≤ (x27_2 : Int) := of_decide_eq_true (by assumption)); (have q340 : x27_2 < (l0.length : Int) := of_decide_eq_true (by assumption)); obtain ⟨ad340, A340_0, c340_0, e340, hx340_0, hl340_0, hi340_0⟩ := at_L4 HR0.out x27_2 p340 q340; cases e340; (replace hx340_0 := ct HB hx340_0); (have HR340_0 := Aside0.mk hi340_0); (have HC340_0 := Aside0.mk hl340_0); clear hi340_0 hl340_0; (replace p340 := eq_true p340); (replace q340 := eq_true q340); (go_wp2_with (first | ((with_reducible refine gate_builtin (b := .append) (xs := #[.tmp 31, .tmp 32]) rfl ?_); at_builtin; refine Kd.R_append_rows k50 (w0 := w) w.heap.size rfl (.tmp 31) (.tmp 32) 25 50 (.agg #[(.int .i64 0), (.int .u64 0), (.int .i64 0)]) 24 rfl Try.underlying25 info50 rfl (by decide) (by omega) u6 x6_2 (rd_L4 l0 x27_2) _ _ _ (fun _ => True) (fun _ => False) rfl rfl ?aO ?aR (fun _ _ h => h) (fun _ h => h.elim) ?aF ?aB ?aS ?aL ?_; (case aR => repeat (first | exact (Kd.C_below HR340_0.out HB.out) | (with_reducible refine Kd.C_alloc ?_ _) | (with_reducible refine Kd.C_drewN ?_ _) | (with_reducible refine Kd.C_drew ?_))); (case aB => exact (bn HB)); (case aF => exact (fun _ _ => trivial)); (case aO => exact (rn HO_6)); (case aS => exact (below_size (bn HB))); (case aL => have := LMc11.out; omega); intro v342 w12 ho hb hg hat; rw [← Ny341.out] at ho; have n0_ := Aside0.mk (hb); have n1_ := Aside0.mk (ho); clear HB; clear HO_6; have HB := n0_; have HO343 := n1_; clear n0_ n1_; clear ho hb hg hat))); go_roundg k2
          case measure => have := HK1.out; have := HK2.out; omega
          case rel => exact ⟨(y341), (wrap64 (x27_2 + 1)), qr_, H', ⟨by have := HK1.out; have := HK2.out; omega⟩, ⟨rn HO343⟩, ⟨bn HB⟩⟩
         ·rw [if_neg c11] at H; (exact absurd H (by simp))
        ·rw [if_neg c10] at H; (exact absurd H (by simp))
       ·rw [if_neg c9] at H; (exact absurd H (by simp))
      ·rw [if_neg c8] at H; (have c8b0 : decide (x27_2 < (l0.length : Int)) = false := decide_eq_false c8); clear c8; obtain rfl := Option.some.inj H; go_wp2; go_ret; (exact ⟨_, by first | rfl | (simp [errW_none, errW_some] <;> rfl) | (simp [*, errW_none, errW_some] <;> rfl), rn HO_6, bn HB⟩)
/-! ### batch_Merge: function 25 -/
def batch_Merge.f (k : Nat) (l0 : List (S50)) (l1 : List (S50)) : Option ((List (S50)) × Int) := (batch_Change_57.f k (([l0, l1] : List (List (S50))))).bind fun t347 => ((batch_summed.f k t347).bind fun bt350 => (some (bt350.1, bt350.2.1)))
set_option maxHeartbeats 8000000 in
set_option maxRecDepth 100000 in
theorem batch_Merge.calls (k : Nat) (P0_ : Nat → Prop) (A0 : Option Addr) (c0 : Nat) (l0 : List (S50)) (P1_ : Nat → Prop) (A1 : Option Addr) (c1 : Nat) (l1 : List (S50)) (r1 : List (S50)) (r2 : Int) (w : World) (hs0 : Kd.V k50 50 w w.heap.size (fun k_ => P0_ k_) (.slice A0 l0.length c0) l0) (hs1 : Kd.V k50 50 w w.heap.size (fun k_ => P1_ k_) (.slice A1 l1.length c1) l1) (h : batch_Merge.f k l0 l1 = some (r1, r2)) :
  Calls Try.prog 25 #[.slice A0 l0.length c0, .slice A1 l1.length c1] w fun e w' => ∃ v0_ : Value, e = .returned (.tuple #[v0_, .int .i64 r2]) ∧ Kd.R k50 50 w' w.heap.size (fun k_ => (w.heap.size ≤ k_)) v0_ r1 ∧ Below w.heap.size w w' := by
 (have HO0 := Aside0.mk (show Kd.V k50 50 w w.heap.size (fun k_ => ((P0_ k_ ∨ P1_ k_) ∨ w.heap.size ≤ k_)) (.slice A0 l0.length c0) l0 from Kd.V_mono hs0 (fun k_ hk => .inl (.inl hk)))); (have HO1 := Aside0.mk (show Kd.V k50 50 w w.heap.size (fun k_ => ((P0_ k_ ∨ P1_ k_) ∨ w.heap.size ≤ k_)) (.slice A1 l1.length c1) l1 from Kd.V_mono hs1 (fun k_ hk => .inl (.inr hk)))); (have HB := Aside0.mk (Below.refl w.heap.size w)); (have H : ((batch_Change_57.f k (([l0, l1] : List (List (S50))))).bind fun t347 => ((batch_summed.f k t347).bind fun bt350 => (some (bt350.1, bt350.2.1)))) = some (r1, r2) := h); clear h; obtain ⟨y344, hy344⟩ : ∃ y_ : List (List (S50)), y_ = (([l0, l1] : List (List (S50)))) := ⟨_, rfl⟩; (replace H : ((batch_Change_57.f k y344).bind fun t347 => ((batch_summed.f k t347).bind fun bt350 => (some (bt350.1, bt350.2.1)))) = some (r1, r2) := by first | (rw [hy344]; with_reducible exact H) | (have H2_ := (Option.bind_some _ _).symm.trans H; rw [hy344]; with_reducible exact H2_) | (have H2_ := (Option.bind_some _ _).symm.trans H; with_reducible exact H2_) | with_reducible exact H | (rw [hy344]; exact H) | exact H); (have Ny344 := Aside0.mk hy344); clear hy344; (replace H := Option.bind_eq_some_iff.mp H); obtain ⟨t347, A30, H⟩ := H; (replace H : ((batch_summed.f k t347).bind fun bt350 => (some (bt350.1, bt350.2.1))) = some (r1, r2) := H); (have A3 := Aside0.mk A30); clear A30; (replace H := Option.bind_eq_some_iff.mp H); obtain ⟨⟨t350, t353, t354⟩, A40, H⟩ := H; (replace H : (some (t350, t353)) = some (r1, r2) := H); (have A4 := Aside0.mk A40); clear A40; simp only [Option.some.injEq, Prod.mk.injEq] at H; obtain ⟨rfl, rfl⟩ := H; go_enter Try.func25, Try.ntmps25; (go_wp2_with (first | ((with_reducible refine gate_dst (N := 8) rfl ?_); refine Kd.N_lit (Kd.slice 50 k50) _ 25 ?hg (N' := 8) ?hd (xs := ([l0, l1] : List (List (S50)))) (inner := [.slice A0 l0.length c0, .slice A1 l1.length c1]) (ok := (fun k_ => ((P0_ k_ ∨ P1_ k_) ∨ w.heap.size ≤ k_))) (okp := (fun k_ => ((P0_ k_ ∨ P1_ k_) ∨ w.heap.size ≤ k_))) ?hr ?hp (fun _ hk => hk) ((show ∀ k_, w.heap.size ≤ k_ → (fun k_ => ((P0_ k_ ∨ P1_ k_) ∨ w.heap.size ≤ k_)) k_ from fun k_ hk => (.inr (Nat.le_trans (below_size (bn HB)) hk))) _ (Nat.le_refl _)) (Below.refl _ _) (Nat.le_refl _) (by simp) ?_; (case hd => rfl); (case hg => rfl); (case hr => first | (go_simp; done) | (go_simp; rfl)); (case hp => exact (Reps.one (show Kd.FK (Kd.slice 50 k50) _ _ l0 [.slice A0 l0.length c0] from (Kd.FK_slice_mk (Kd.V_reads' (Kd.V_mono (ok' := (fun k_ => ((P0_ k_ ∨ P1_ k_) ∨ w.heap.size ≤ k_))) (HO0.out) (fun k_ hk => hk))).2.1 (Kd.V_F (Kd.V_mono (ok' := (fun k_ => ((P0_ k_ ∨ P1_ k_) ∨ w.heap.size ≤ k_))) (HO0.out) (fun k_ hk => hk))))) (Reps.one (show Kd.FK (Kd.slice 50 k50) _ _ l1 [.slice A1 l1.length c1] from (Kd.FK_slice_mk (Kd.V_reads' (Kd.V_mono (ok' := (fun k_ => ((P0_ k_ ∨ P1_ k_) ∨ w.heap.size ≤ k_))) (HO1.out) (fun k_ hk => hk))).2.1 (Kd.V_F (Kd.V_mono (ok' := (fun k_ => ((P0_ k_ ∨ P1_ k_) ∨ w.heap.size ≤ k_))) (HO1.out) (fun k_ hk => hk))))) (Reps.none _ _)))); intro v345 w5 ho6 hb hg_ hnew_; clear hg_ hnew_; (first | rw [← Ny344.out] at ho6 | (simp only [Int.reduceToNat] at ho6; rw [← Ny344.out] at ho6)); have n0_ := Aside0.mk (Kd.V_elder' (by (with_reducible repeat (first | apply Kd.V_alloc | apply Kd.V_drewN | apply Kd.V_drew)); exact HO0.out) (Kd.N_base ho6) hb); have n1_ := Aside0.mk (Kd.V_elder' (by (with_reducible repeat (first | apply Kd.V_alloc | apply Kd.V_drewN | apply Kd.V_drew)); exact HO1.out) (Kd.N_base ho6) hb); have n2_ := Aside0.mk (Kd.N_lower ho6 (below_size (bn HB))); clear HO0; clear HO1; have HO0 := n0_; have HO1 := n1_; have HO346 := n2_; replace HB := bb HB hb; clear n0_ n1_ n2_; clear hb ho6; obtain ⟨Ao7, co7, eo7⟩ := Kd.N_slice HO346.out; subst eo7) | ((with_reducible refine gate_callee (f := 57) rfl ?_); refine gl (some 9) Try.func57 #[.slice Ao7 y344.length co7] ?_; (with_reducible refine (batch_Change_57.calls k _ _ y344 t347 _ ?side1 ?side2 A3.out).mono ?_); (case side1 => repeat (first | exact (Kd.N_reads' HO346.out).2.2 | (with_reducible refine Kd.C_alloc ?_ _) | (with_reducible refine Kd.C_drewN ?_ _) | (with_reducible refine Kd.C_drew ?_))); (case side2 => exact (Kd.N_reads' HO346.out).2.1); rintro e w8 ⟨v348, rfl, ho0, hb⟩; refine ⟨_, rfl, ?_⟩; have n0_ := Aside0.mk (Kd.V_elder' (by (with_reducible repeat (first | apply Kd.V_alloc | apply Kd.V_drewN | apply Kd.V_drew)); exact HO0.out) (Kd.R_base ho0) hb); have n1_ := Aside0.mk (Kd.V_elder' (by (with_reducible repeat (first | apply Kd.V_alloc | apply Kd.V_drewN | apply Kd.V_drew)); exact HO1.out) (Kd.R_base ho0) hb); have n2_ := Aside0.mk (Kd.N_elder' (by (with_reducible repeat (first | apply Kd.N_alloc | apply Kd.N_drewN | apply Kd.N_drew)); exact HO346.out) (Kd.R_base ho0) hb); have n3_ := Aside0.mk (Kd.R_lower (Kd.R_newM (M := fun k_ => (w.heap.size ≤ k_)) ho0 (below_size (bn HB)) (fun k_ h_ => h_)) (below_size (bn HB))); clear HO0; clear HO1; clear HO346; have HO0 := n0_; have HO1 := n1_; have HO346 := n2_; have HO349 := n3_; replace HB := bb HB hb; clear n0_ n1_ n2_ n3_; (try clear hb); (try clear ho0); obtain ⟨Ao9, co9, eo9⟩ := Kd.R_slice HO349.out; subst eo9) | ((with_reducible refine gate_callee (f := 49) rfl ?_); refine gl (some 10) Try.func49 #[.slice Ao9 t347.length co9] ?_; (with_reducible refine (batch_summed.calls k (fun k_ => some k_ = (.slice Ao9 t347.length co9 : Value).ownBlock) (.slice Ao9 t347.length co9) t347 t350 t353 t354 w _ ?side1 ?side2 A4.out).mono ?_); (case side1 => repeat (first | (with_reducible first | exact HB.out | apply below_alloc | apply pw_below_drewN | apply below_drew1) | exact HB.out)); (case side2 => exact Kd.R_tight rfl HO349.out); rintro e w10 ⟨v351, rfl, ho0, hy0, hb, hkp⟩; refine ⟨_, rfl, ?_⟩; have n0_ := Aside0.mk (Kd.V_mono (ok' := fun k_ => ((P0_ k_ ∨ P1_ k_) ∨ w.heap.size ≤ k_) ∧ some k_ ≠ (.slice Ao7 y344.length co7 : Value).ownBlock ∧ some k_ ≠ (.slice Ao9 t347.length co9 : Value).ownBlock ∧ some k_ ≠ (v351 : Value).ownBlock) (Kd.V_keptB (HO0.out) hkp (fun k_ hk_ hs_ => (hk_.2) hs_)) (fun k_ hk_ => ⟨hk_.1.1.1, hk_.1.1.2, hk_.1.2, fun e_ => Or.elim (ho0.1 k_ e_.symm).1 (fun hs_ => hk_.2.1 hs_) (fun hn_ => Nat.not_le.2 hk_.2.2 hn_)⟩)); have n1_ := Aside0.mk (Kd.V_mono (ok' := fun k_ => ((P0_ k_ ∨ P1_ k_) ∨ w.heap.size ≤ k_) ∧ some k_ ≠ (.slice Ao7 y344.length co7 : Value).ownBlock ∧ some k_ ≠ (.slice Ao9 t347.length co9 : Value).ownBlock ∧ some k_ ≠ (v351 : Value).ownBlock) (Kd.V_keptB (HO1.out) hkp (fun k_ hk_ hs_ => (hk_.2) hs_)) (fun k_ hk_ => ⟨hk_.1.1.1, hk_.1.1.2, hk_.1.2, fun e_ => Or.elim (ho0.1 k_ e_.symm).1 (fun hs_ => hk_.2.1 hs_) (fun hn_ => Nat.not_le.2 hk_.2.2 hn_)⟩)); have n2_ := Aside0.mk (Kd.N_mono (ok' := fun k_ => ((P0_ k_ ∨ P1_ k_) ∨ w.heap.size ≤ k_) ∧ some k_ ≠ (.slice Ao9 t347.length co9 : Value).ownBlock ∧ some k_ ≠ (v351 : Value).ownBlock) (Kd.N_keptB (HO346.out) hkp (fun k_ hk_ hs_ => (hk_.2) hs_)) (fun k_ hk_ => ⟨hk_.1.1, hk_.1.2, fun e_ => Or.elim (ho0.1 k_ e_.symm).1 (fun hs_ => hk_.2.1 hs_) (fun hn_ => Nat.not_le.2 hk_.2.2 hn_)⟩)); have n3_ := Aside0.mk (Kd.R_reok rfl hy0 (fun k_ e_ => HO349.out.1 k_ e_)); have n4_ := Aside0.mk (Kd.R_mono (ok' := fun k_ => (w.heap.size ≤ k_) ∧ some k_ ≠ (.slice Ao9 t347.length co9 : Value).ownBlock) ho0 (fun k_ hk_ => ⟨Or.elim hk_.1 (fun hs_ => (HO349.out.1 k_ (hs_).symm).1) (fun hn_ => (Nat.le_trans (below_size (bn HB)) hn_)), hk_.2⟩)); have n5_ := Aside0.mk (hb); clear HO0; clear HO1; clear HO346; clear HO349; clear HB; have HO0 := n0_; have HO1 := n1_; have HO346 := n2_; have HO349 := n3_; have HO352 := n4_; have HB := n5_; clear n0_ n1_ n2_ n3_ n4_ n5_; (try clear hb); (try clear hkp); (try clear ho0); (try clear hy0))))
 go_ret2; (exact ⟨_, by first | rfl | (simp [errW_none, errW_some] <;> rfl) | (simp [*, errW_none, errW_some] <;> rfl), by (with_reducible repeat (first | apply Kd.R_alloc | apply Kd.R_drewN | apply Kd.R_drew)); exact Kd.R_mono HO352.out (fun _ hk => hk.1), bn HB⟩)
def idxOf {α : Type} (p : α → Bool) (l : List α) : Int := match l.findIdx? p with | some i => (i : Int) | none => -1
theorem idxOf_any {α : Type} (p : α → Bool) (l : List α) : decide (idxOf p l ≥ 0) = l.any p := by
 unfold idxOf
 cases h : l.findIdx? p with
 | none =>
  have h1 := List.findIdx?_eq_none_iff.1 h
  have : l.any p = false := by
   rw [List.any_eq_false]
   intro x hx
   simpa using h1 x hx
  rw [this]
  decide
 | some i =>
  obtain ⟨hi, h1⟩ := List.findIdx?_eq_some_iff_getElem.1 h
  have h2 : l.any p = true := List.any_eq_true.2 ⟨l[i], List.getElem_mem _, h1.1⟩
  rw [h2]
  show decide ((i : Int) ≥ 0) = true
  exact decide_eq_true (by omega)
theorem idxOf_at {α : Type} (p : α → Bool) (l : List α) (d : α) (i : Nat) (hi : i < l.length) (h : p (l.getD i d) = true) (hb : ∀ j, j < i → p (l.getD j d) = false) : idxOf p l = (i : Int) := by
 unfold idxOf
 have : l.findIdx? p = some i := by
  rw [List.findIdx?_eq_some_iff_getElem]
  refine ⟨hi, ⟨by simpa [List.getD, hi] using h, fun j hj => ?_⟩⟩
  have := hb j hj
  simp [List.getD, show j < l.length by omega] at this
  simp [this]
 rw [this]
theorem idxOf_no {α : Type} (p : α → Bool) (l : List α) (d : α) (hb : ∀ j, j < l.length → p (l.getD j d) = false) : idxOf p l = -1 := by
 unfold idxOf
 have : l.findIdx? p = none := by
  rw [List.findIdx?_eq_none_iff]
  intro x hx
  obtain ⟨j, hj, rfl⟩ := List.getElem_of_mem hx
  have := hb j hj
  simpa [List.getD, hj] using this
 rw [this]
set_option maxHeartbeats 1000000 in
set_option maxRecDepth 100000 in
theorem indexFunc_calls (g : FuncId) (lb : Array Value) (p : S50 → Bool) (he : ∀ (args : Array Value) (w : World), (callFunc g args).run Try.prog w = .ok (.enter g args) w) (A0 : Option Addr) (c0 : Nat) (l0 : List S50) (w : World) (hr0 : Kd.C k50 w A0 l0.length l0)
  (hp : ∀ W : World, Below w.heap.size w W → ∀ x : S50, x ∈ l0 → Calls Try.prog g (#[.agg #[.int .i64 x.f0, .int .u64 x.f1, .int .i64 x.f2]] ++ lb) W fun e w' => e = .returned (.bool (p x)) ∧ Below W.heap.size W w') :
  Calls Try.prog 79 #[.slice A0 l0.length c0, .func (.func g) #[] lb] w fun e w' => e = .returned (.int .i64 (idxOf p l0)) ∧ Below w.heap.size w w' := by
 have HR := Aside0.mk hr0
 have HP := Aside0.mk hp
 have hm := hr0.2.1
 clear hr0 hp
 go_enter Try.func79, Try.ntmps79
 go_wp2
 go_loopw [8] (fun v8 wr => ∃ i : Int, v8 = .int .i64 i ∧ Aside0 (0 ≤ i ∧ i ≤ l0.length ∧ ∀ j : Nat, (j : Int) < i → p (l0.getD j z50) = false) ∧ Aside0 (Below w.heap.size w wr)) (fun v8 _ => l0.length - (intOf v8).toNat)
 case atStart => exact ⟨0, rfl, ⟨by omega, by omega, fun j hj => by omega⟩, ⟨Below.refl _ _⟩⟩
 case round =>
  obtain ⟨i, rfl, HI, HB⟩ := hrel
  have h0 := HI.out.1
  have h1 := HI.out.2.1
  by_cases hlt : i < (l0.length : Int)
  ·obtain ⟨ad, rfl, hx0, hx1, hx2⟩ := at_T50 (Kd.C_below HR.out HB.out) i h0 hlt
   have hmem : (rd_T50 l0 i) ∈ l0 := by
    unfold rd_T50
    rw [List.getD_eq_getElem?_getD, List.getElem?_eq_getElem (by omega)]
    exact List.getElem_mem _
   have HC := Aside0.mk (HP.out wr HB.out (rd_T50 l0 i) hmem)
   clear hmem
   cases hpx : p (rd_T50 l0 i) with
   | true =>
    have HX := Aside0.mk hpx
    rw [hpx] at HC
    clear hpx
    go_wp2_with (first | ((with_reducible refine HC.out.mono ?_); rintro e w3 ⟨rfl, hb⟩; have HB3 := Aside0.mk (below_step HB.out hb); clear hb))
    go_ret
    have e1 : idxOf p l0 = i := by rw [idxOf_at p l0 z50 i.toNat (by omega) HX.out (fun j hj => HI.out.2.2 j (by omega))]; exact Int.toNat_of_nonneg h0
    exact ⟨by rw [e1]; rfl, HB3.out⟩
   | false =>
    have HX := Aside0.mk hpx
    rw [hpx] at HC
    clear hpx
    go_wp2_with (first | ((with_reducible refine HC.out.mono ?_); rintro e w3 ⟨rfl, hb⟩; have HB3 := Aside0.mk (below_step HB.out hb); clear hb))
    go_roundw
    case rel =>
     refine ⟨i + 1, by go_num, ⟨by omega, by omega, fun j hj => ?_⟩, ⟨HB3.out⟩⟩
     by_cases hj2 : (j : Int) < i
     ·exact HI.out.2.2 j hj2
     ·obtain rfl : j = i.toNat := by omega
      exact HX.out
    case measure => simp [intOf]; omega
  ·go_wp2
   go_ret
   exact ⟨by rw [idxOf_no p l0 z50 (fun j hj => HI.out.2.2 j (by omega))]; rfl, HB.out⟩
set_option maxHeartbeats 400000 in
theorem containsFunc_calls (g : FuncId) (lb : Array Value) (p : S50 → Bool) (he : ∀ (args : Array Value) (w : World), (callFunc g args).run Try.prog w = .ok (.enter g args) w) (A0 : Option Addr) (c0 : Nat) (l0 : List S50) (w : World) (hr0 : Kd.C k50 w A0 l0.length l0)
  (hp : ∀ W : World, Below w.heap.size w W → ∀ x : S50, x ∈ l0 → Calls Try.prog g (#[.agg #[.int .i64 x.f0, .int .u64 x.f1, .int .i64 x.f2]] ++ lb) W fun e w' => e = .returned (.bool (p x)) ∧ Below W.heap.size W w') :
  Calls Try.prog 59 #[.slice A0 l0.length c0, .func (.func g) #[] lb] w fun e w' => e = .returned (.bool (l0.any p)) ∧ Below w.heap.size w w' := by
 have HC := Aside0.mk (indexFunc_calls g lb p he A0 c0 l0 w hr0 hp)
 clear hr0 hp he
 have HA := Aside0.mk (idxOf_any p l0)
 generalize hq : idxOf p l0 = q at HC HA
 clear hq
 go_enter Try.func59, Try.ntmps59
 go_wp2_with (first | (go_at_call 79; refine HC.out.mono ?_; rintro e w3 ⟨rfl, hb⟩; have HB3 := Aside0.mk hb; clear hb))
 go_ret
 exact ⟨by rw [← HA.out]; rfl, HB3.out⟩
/-! ### batch_Change_55: function 55 -/
def batch_Change_55.l0 : Nat → List (S50) → Int → Int → Int → Int → Int → Int → Option (Int × Bool)
 | 0, _, _, _, _, _, _, _ => none
 | k + 1, x0, x8, x9, x10, x225000, x225001, x225002 => if x9 < x10 then (if 0 ≤ (wrap64 ((IntKind.u64.wrap (wrap64 (x9 + x10))) / 2)) then (if (wrap64 ((IntKind.u64.wrap (wrap64 (x9 + x10))) / 2)) < (x0.length : Int) then ((batch_order.f k ((rd_T50 x0 (wrap64 ((IntKind.u64.wrap (wrap64 (x9 + x10))) / 2))).f0) ((rd_T50 x0 (wrap64 ((IntKind.u64.wrap (wrap64 (x9 + x10))) / 2))).f1) ((rd_T50 x0 (wrap64 ((IntKind.u64.wrap (wrap64 (x9 + x10))) / 2))).f2) x225000 x225001 x225002).bind fun t226 => (if t226 < 0 then (batch_Change_55.l0 k x0 x8 (wrap64 ((wrap64 ((IntKind.u64.wrap (wrap64 (x9 + x10))) / 2)) + 1)) x10 x225000 x225001 x225002) else (batch_Change_55.l0 k x0 x8 x9 (wrap64 ((IntKind.u64.wrap (wrap64 (x9 + x10))) / 2)) x225000 x225001 x225002))) else (none)) else (none)) else (if x9 < x8 then (if 0 ≤ x9 then (if x9 < (x0.length : Int) then ((batch_order.f k ((rd_T50 x0 x9).f0) ((rd_T50 x0 x9).f1) ((rd_T50 x0 x9).f2) x225000 x225001 x225002).bind fun t228 => (some (x9, (t228 == 0)))) else (none)) else (none)) else (some (x9, false)))
def batch_Change_55.f (k : Nat) (l0 : List (S50)) (a1_0 : Int) (a1_1 : Int) (a1_2 : Int)  : Option (Int × Bool) := batch_Change_55.l0 k l0 (l0.length : Int) 0 (l0.length : Int) a1_0 a1_1 a1_2
def batch_Change_55.T5 : Bool × List (List Nat × List Nat) := (true, [([], []), ([], []), ([], []), ([1, 2], [1, 2]), ([3], [3]), ([], []), ([0, 4, 5], [0, 4, 5]), ([6], [6])])
def batch_Change_55.B5 : List Nat := [0, 0, 0, 6, 14, 0, 63, 127]
theorem batch_Change_55.tab5 : rtab .any (opsOf Try.f55 5) = batch_Change_55.T5 := by kernel_rfl
theorem batch_Change_55.bits5 : waitsOk batch_Change_55.T5.2 batch_Change_55.B5 = true := by kernel_rfl
def batch_Change_55.T8 : Bool × List (List Nat × List Nat) := (true, [([], []), ([], []), ([], []), ([1, 2], [1, 2]), ([3], [3]), ([4], [4]), ([4], [4]), ([4], [4]), ([6, 7, 4], [4, 6, 7]), ([8, 4], [4, 8]), ([4], [4]), ([5, 9, 10, 4, 4], [4, 5, 9, 10]), ([11, 4], [4, 11]), ([4, 12], [4, 12]), ([0, 11, 0], [0]), ([13, 14, 0, 1, 2, 3, 4, 5, 6, 7, 8, 9, 10, 11, 12, 13, 14], [13])])
def batch_Change_55.B8 : List Nat := [0, 0, 0, 6, 14, 30, 30, 30, 222, 478, 30, 2046, 4094, 8190, 4095, 32767]
theorem batch_Change_55.tab8 : rtab .any (opsOf Try.f55 8) = batch_Change_55.T8 := by kernel_rfl
theorem batch_Change_55.bits8 : waitsOk batch_Change_55.T8.2 batch_Change_55.B8 = true := by kernel_rfl
set_option maxHeartbeats 8000000 in
set_option maxRecDepth 100000 in
theorem batch_Change_55.calls (k : Nat) (A0 : Option Addr) (c0 : Nat) (l0 : List (S50)) (a1_0 : Int) (a1_1 : Int) (a1_2 : Int)  (r1 : Int) (r2 : Bool) (w : World) (hr0 : Kd.C k50 w A0 l0.length l0) (hc0 : l0.length ≤ c0) (h : batch_Change_55.f k l0 a1_0 a1_1 a1_2 = some (r1, r2)) :
  Calls Try.prog 55 #[.slice A0 l0.length c0, .agg #[.int .i64 a1_0, .int .u64 a1_1, .int .i64 a1_2], .func (.func 53) #[] #[]] w fun e w' => e = .returned (.tuple #[.int .i64 r1, .bool r2]) ∧ Below w.heap.size w w' := by
 (have hu50 := Try.underlying50); (have HR0 := Aside0.mk hr0); (have HC0 := Aside0.mk hc0); clear hr0 hc0; (have HB := Aside0.mk (Below.refl w.heap.size w)); (have H : (batch_Change_55.l0 k l0 (l0.length : Int) 0 (l0.length : Int) a1_0 a1_1 a1_2) = some (r1, r2) := h); clear h; (have H' := Aside0.mk H); clear H; go_enter Try.func55, Try.ntmps55; (go_wp2_with (first | ((with_reducible refine gate_dst (N := 4) rfl ?_); refine box_event ?hg (N := 4) ?hd (cs := #[.int .i64 a1_0, .int .u64 a1_1, .int .i64 a1_2]) (t := 50) ?hr ?_; (case hd => rfl); (case hg => rfl); (case hr => first | (go_simp; done) | (go_simp; rfl)); intro gb224 hg w4 hbox hb; have n1_ := Aside0.mk (hbox); have n2_ := Aside0.mk (gsz hg (bn HB)); have n3_ := Aside0.mk (gsz hg (bn HB)); replace HB := bb HB hb; have BK224 := n1_; have GW224 := n2_; have GE224 := n3_; clear n1_ n2_ n3_; clear hb hbox hg))); (go_loopg [9, 10] k (fun kq v9 v10 w' => ∃ (x9_1 : Int) (x10_1 : Int), v9 = .int .i64 x9_1 ∧ v10 = .int .i64 x10_1 ∧ Aside0 (batch_Change_55.l0 kq l0 (l0.length : Int) x9_1 x10_1 a1_0 a1_1 a1_2 = some (r1, r2)) ∧ Aside0 (kq ≤ k) ∧ Aside0 (w'.heap[gb224]? = some (.cells #[.int .i64 a1_0, .int .u64 a1_1, .int .i64 a1_2] 50 (0, 0))) ∧ Aside0 (Below w.heap.size w w')))
 case atStart => exact ⟨(0), ((l0.length : Int)), qr_, qr_, H', ⟨Nat.le_refl _⟩, ⟨bk BK224⟩, ⟨bn1 HB GE224⟩⟩
 case round =>
  clear H'; obtain ⟨x9_1, x10_1, rfl, rfl, HA, HK1, BK224, HB⟩ := hrel
  cases gk with
  | zero => exact absurd HA.out (by simp [batch_Change_55.l0])
  | succ k1 =>
   (have H := HA.out); clear HA; simp only [batch_Change_55.l0] at H; by_cases c5 : x9_1 < x10_1
   ·rw [if_pos c5] at H; (have c5b0 : decide (x9_1 < x10_1) = true := decide_eq_true c5); clear c5; obtain ⟨ji6, hji6⟩ : ∃ j_ : Int, (wrap64 ((IntKind.u64.wrap (wrap64 (x9_1 + x10_1))) / 2)) = j_ := ⟨_, rfl⟩; (replace H : (if 0 ≤ (ji6) then (if (ji6) < (l0.length : Int) then ((batch_order.f k1 ((rd_T50 l0 (ji6)).f0) ((rd_T50 l0 (ji6)).f1) ((rd_T50 l0 (ji6)).f2) a1_0 a1_1 a1_2).bind fun t226 => (if t226 < 0 then (batch_Change_55.l0 k1 l0 (l0.length : Int) (wrap64 ((ji6) + 1)) x10_1 a1_0 a1_1 a1_2) else (batch_Change_55.l0 k1 l0 (l0.length : Int) x9_1 ji6 a1_0 a1_1 a1_2))) else (none)) else (none)) = some (r1, r2) := by first | (rw [hji6] at H; exact H) | (simp only [hji6] at H ⊢; exact H)); (have hji6w : (IntKind.i64.wrap ((IntKind.u64.wrap (wrap64 (x9_1 + x10_1))) / 2)) = ji6 := (i64_w _).trans hji6); by_cases c7 : 0 ≤ (ji6)
    ·rw [if_pos c7] at H; (have c7b0 : decide (0 ≤ (ji6)) = true := decide_eq_true c7); clear c7; by_cases c8 : (ji6) < (l0.length : Int)
     ·rw [if_pos c8] at H; (have c8b0 : decide ((ji6) < (l0.length : Int)) = true := decide_eq_true c8); clear c8; (replace H := Option.bind_eq_some_iff.mp H); obtain ⟨t226, A90, H⟩ := H; (replace H : (if t226 < 0 then (batch_Change_55.l0 k1 l0 (l0.length : Int) (wrap64 ((ji6) + 1)) x10_1 a1_0 a1_1 a1_2) else (batch_Change_55.l0 k1 l0 (l0.length : Int) x9_1 ji6 a1_0 a1_1 a1_2)) = some (r1, r2) := H); (have A9 := Aside0.mk A90); clear A90; by_cases c10 : t226 < 0
      ·rw [if_pos c10] at H; (have c10b0 : decide (t226 < 0) = true := decide_eq_true c10); clear c10; (have H' := Aside0.mk H); clear H; (try go_wp2); (have n0_ := Aside0.mk (blk_drew BK224.out)); (have n1_ := Aside0.mk (below_drew1 HB.out)); clear BK224; clear HB; (have BK224 := n0_); (have HB := n1_); clear n0_ n1_; (have p225 : 0 ≤ ((ji6) : Int) := of_decide_eq_true (by assumption)); (have q225 : (ji6) < (l0.length : Int) := of_decide_eq_true (by assumption)); obtain ⟨ad225, e225, hx225_0, hx225_1, hx225_2⟩ := at_T50 HR0.out (ji6) p225 q225; (have hw225_2 := hx225_2); (have hw225_1 := hx225_1); (have hw225_0 := hx225_0); cases e225; (replace hx225_0 := ct HB hx225_0); (replace hx225_1 := ct HB hx225_1); (replace hx225_2 := ct HB hx225_2); (replace p225 := eq_true p225); (replace q225 := eq_true q225); (refine start_ (n := 8) (S := fun w' => w'.cell? ⟨gb224, 0, none⟩ = some (.int .i64 a1_0) ∧ w'.cell? ⟨gb224, 1, none⟩ = some (.int .u64 a1_1) ∧ w'.cell? ⟨gb224, 2, none⟩ = some (.int .i64 a1_2) ∧ w'.cell? (ad225.add (((ji6)).toNat * 3)) = some (.int .i64 ((rd_T50 l0 (ji6)).f0)) ∧ w'.cell? ⟨(ad225.add (((ji6)).toNat * 3)).block, (ad225.add (((ji6)).toNat * 3)).off + 1, none⟩ = some (.int .u64 ((rd_T50 l0 (ji6)).f1)) ∧ w'.cell? ⟨(ad225.add (((ji6)).toNat * 3)).block, (ad225.add (((ji6)).toNat * 3)).off + 2, none⟩ = some (.int .i64 ((rd_T50 l0 (ji6)).f2))) (ds := []) (mk_ 0 8) (by kernel_rfl) rfl rfl ⟨(blk_cell BK224.out 0).trans rfl, (blk_cell BK224.out 1).trans rfl, (blk_cell BK224.out 2).trans rfl, (ct HB hw225_0), (ct HB hw225_1), (ct HB hw225_2)⟩ (fun hHeld => ?_); refine with_tabW batch_Change_55.tab5 batch_Change_55.bits5 (fun HT_ HW_ => ?_)); generalize wr.drew = w11 at BK224 HB hx225_0 hx225_1 hx225_2 hHeld ⊢; refine pv_ 0 24 (mk_ 1 7) HT_ ?_; refine pv_ 1 25 (mk_ 2 6) HT_ ?_; refine pv_ 2 26 (mk_ 3 5) HT_ ?_; refine pv_ 3 27 (mk_ 4 4) HT_ ?_; (refine tv_ 4 28 (mk_ 5 3) HT_ HW_ hHeld (hy := by rintro w' ⟨s0, s1, s2, s3, s4, s5⟩; go_simp; with_reducible rfl) (h := ?_)); (refine tv_ 5 29 (mk_ 6 2) HT_ HW_ hHeld (hy := by rintro w' ⟨s0, s1, s2, s3, s4, s5⟩; go_simp; with_reducible rfl) (h := ?_)); (refine one_ (i := 6) (N := some 30) (mk_ 7 1) rfl rfl (one_of HT_.out (by kernel_rfl)) (by decide) (fun K hK => ?_)); (refine goesTT_ Try.func53 (by kernel_rfl) rfl #[.agg #[.int .i64 ((rd_T50 l0 (ji6)).f0), .int .u64 ((rd_T50 l0 (ji6)).f1), .int .i64 ((rd_T50 l0 (ji6)).f2)], .agg #[.int .i64 a1_0, .int .u64 a1_1, .int .i64 a1_2]] (by rfl) rfl rfl rfl (by (try simp only [List.map_toArray, List.map_cons, List.map_nil]); first | done | (simp only [hji6]; rfl) | rfl | (simp only [List.length_drop, List.length_take]; rfl)) ?_); (with_reducible refine (batch_order.calls k1 ((rd_T50 l0 (ji6)).f0) ((rd_T50 l0 (ji6)).f1) ((rd_T50 l0 (ji6)).f2) a1_0 a1_1 a1_2 t226 _ A9.out).mono ?_); rintro e w12 ⟨rfl, hb⟩; refine ⟨_, rfl, ?_⟩; (have n0_ := Aside0.mk (bkb BK224 hb)); (have n1_ := Aside0.mk (below_step (bn1 HB GE224) hb)); clear BK224; clear HB; (have BK224 := n0_)
       (have HB := n1_); clear n0_ n1_; (refine hK.out _ _ ⟨(blk_cell BK224.out 0).trans rfl, (blk_cell BK224.out 1).trans rfl, (blk_cell BK224.out 2).trans rfl, (ct HB hw225_0), (ct HB hw225_1), (ct HB hw225_2)⟩ (fun hHeld => ?_)); clear hK K; refine norm_ (a' := ?_) ?_ ?_; rotate_left
       ·(show Act.put _ (some 30) _ = _); simp only [Act.put, List.setIfInBounds_toArray, List.set_cons_zero, List.set_cons_succ, i64_w, i32_w]; rfl
       refine pv_ 7 31 (mk_ 8 0) HT_ ?_; refine done_ (done_of HT_.out (by kernel_rfl)) ?_; (try go_wp2); go_roundg k1
       case measure => have := HK1.out; omega
       case rel => exact ⟨(wrap64 ((ji6) + 1)), (x10_1), (by first | rfl | (simp; done) | (simp only [← hji6] <;> (first | rfl | simp)) | (simp [*]; done)), qr_, H', ⟨by have := HK1.out; omega⟩, ⟨bk BK224⟩, ⟨bn1 HB GE224⟩⟩
      ·rw [if_neg c10] at H; (have c10b0 : decide (t226 < 0) = false := decide_eq_false c10); clear c10; (have H' := Aside0.mk H); clear H; (try go_wp2); (have n0_ := Aside0.mk (blk_drew BK224.out)); (have n1_ := Aside0.mk (below_drew1 HB.out)); clear BK224; clear HB; (have BK224 := n0_); (have HB := n1_); clear n0_ n1_; (have p225 : 0 ≤ ((ji6) : Int) := of_decide_eq_true (by assumption)); (have q225 : (ji6) < (l0.length : Int) := of_decide_eq_true (by assumption)); obtain ⟨ad225, e225, hx225_0, hx225_1, hx225_2⟩ := at_T50 HR0.out (ji6) p225 q225; (have hw225_2 := hx225_2); (have hw225_1 := hx225_1); (have hw225_0 := hx225_0); cases e225; (replace hx225_0 := ct HB hx225_0); (replace hx225_1 := ct HB hx225_1); (replace hx225_2 := ct HB hx225_2); (replace p225 := eq_true p225); (replace q225 := eq_true q225); (refine start_ (n := 8) (S := fun w' => w'.cell? ⟨gb224, 0, none⟩ = some (.int .i64 a1_0) ∧ w'.cell? ⟨gb224, 1, none⟩ = some (.int .u64 a1_1) ∧ w'.cell? ⟨gb224, 2, none⟩ = some (.int .i64 a1_2) ∧ w'.cell? (ad225.add (((ji6)).toNat * 3)) = some (.int .i64 ((rd_T50 l0 (ji6)).f0)) ∧ w'.cell? ⟨(ad225.add (((ji6)).toNat * 3)).block, (ad225.add (((ji6)).toNat * 3)).off + 1, none⟩ = some (.int .u64 ((rd_T50 l0 (ji6)).f1)) ∧ w'.cell? ⟨(ad225.add (((ji6)).toNat * 3)).block, (ad225.add (((ji6)).toNat * 3)).off + 2, none⟩ = some (.int .i64 ((rd_T50 l0 (ji6)).f2))) (ds := []) (mk_ 0 8) (by kernel_rfl) rfl rfl ⟨(blk_cell BK224.out 0).trans rfl, (blk_cell BK224.out 1).trans rfl, (blk_cell BK224.out 2).trans rfl, (ct HB hw225_0), (ct HB hw225_1), (ct HB hw225_2)⟩ (fun hHeld => ?_); refine with_tabW batch_Change_55.tab5 batch_Change_55.bits5 (fun HT_ HW_ => ?_)); generalize wr.drew = w13 at BK224 HB hx225_0 hx225_1 hx225_2 hHeld ⊢; refine pv_ 0 24 (mk_ 1 7) HT_ ?_; refine pv_ 1 25 (mk_ 2 6) HT_ ?_; refine pv_ 2 26 (mk_ 3 5) HT_ ?_; refine pv_ 3 27 (mk_ 4 4) HT_ ?_; (refine tv_ 4 28 (mk_ 5 3) HT_ HW_ hHeld (hy := by rintro w' ⟨s0, s1, s2, s3, s4, s5⟩; go_simp; with_reducible rfl) (h := ?_)); (refine tv_ 5 29 (mk_ 6 2) HT_ HW_ hHeld (hy := by rintro w' ⟨s0, s1, s2, s3, s4, s5⟩; go_simp; with_reducible rfl) (h := ?_)); (refine one_ (i := 6) (N := some 30) (mk_ 7 1) rfl rfl (one_of HT_.out (by kernel_rfl)) (by decide) (fun K hK => ?_)); (refine goesTT_ Try.func53 (by kernel_rfl) rfl #[.agg #[.int .i64 ((rd_T50 l0 (ji6)).f0), .int .u64 ((rd_T50 l0 (ji6)).f1), .int .i64 ((rd_T50 l0 (ji6)).f2)], .agg #[.int .i64 a1_0, .int .u64 a1_1, .int .i64 a1_2]] (by rfl) rfl rfl rfl (by (try simp only [List.map_toArray, List.map_cons, List.map_nil]); first | done | (simp only [hji6]; rfl) | rfl | (simp only [List.length_drop, List.length_take]; rfl)) ?_); (with_reducible refine (batch_order.calls k1 ((rd_T50 l0 (ji6)).f0) ((rd_T50 l0 (ji6)).f1) ((rd_T50 l0 (ji6)).f2) a1_0 a1_1 a1_2 t226 _ A9.out).mono ?_); rintro e w14 ⟨rfl, hb⟩; refine ⟨_, rfl, ?_⟩; (have n0_ := Aside0.mk (bkb BK224 hb)); (have n1_ := Aside0.mk (below_step (bn1 HB GE224) hb)); clear BK224; clear HB; (have BK224 := n0_)
       (have HB := n1_); clear n0_ n1_; (refine hK.out _ _ ⟨(blk_cell BK224.out 0).trans rfl, (blk_cell BK224.out 1).trans rfl, (blk_cell BK224.out 2).trans rfl, (ct HB hw225_0), (ct HB hw225_1), (ct HB hw225_2)⟩ (fun hHeld => ?_)); clear hK K; refine norm_ (a' := ?_) ?_ ?_; rotate_left
       ·(show Act.put _ (some 30) _ = _); simp only [Act.put, List.setIfInBounds_toArray, List.set_cons_zero, List.set_cons_succ, i64_w, i32_w]; rfl
       refine pv_ 7 31 (mk_ 8 0) HT_ ?_; refine done_ (done_of HT_.out (by kernel_rfl)) ?_; (try go_wp2); go_roundg k1
       case measure => have := HK1.out; omega
       case rel => exact ⟨(x9_1), (ji6), qr_, (by first | rfl | (simp; done) | (simp only [← hji6] <;> (first | rfl | simp)) | (simp [*]; done)), H', ⟨by have := HK1.out; omega⟩, ⟨bk BK224⟩, ⟨bn1 HB GE224⟩⟩
     ·rw [if_neg c8] at H; (exact absurd H (by simp))
    ·rw [if_neg c7] at H; (exact absurd H (by simp))
   ·rw [if_neg c5] at H; (have c5b0 : decide (x9_1 < x10_1) = false := decide_eq_false c5); clear c5; by_cases c15 : x9_1 < (l0.length : Int)
    ·rw [if_pos c15] at H; (have c15b0 : decide (x9_1 < (l0.length : Int)) = true := decide_eq_true c15); clear c15; by_cases c16 : 0 ≤ x9_1
     ·rw [if_pos c16] at H; (have c16b0 : decide (0 ≤ x9_1) = true := decide_eq_true c16); clear c16; by_cases c17 : x9_1 < (l0.length : Int)
      ·rw [if_pos c17] at H; (have c17b0 : decide (x9_1 < (l0.length : Int)) = true := decide_eq_true c17); clear c17; (replace H := Option.bind_eq_some_iff.mp H); obtain ⟨t228, A180, H⟩ := H; (replace H : (some (x9_1, (t228 == 0))) = some (r1, r2) := H); (have A18 := Aside0.mk A180); clear A180; simp only [Option.some.injEq, Prod.mk.injEq] at H; obtain ⟨rfl, rfl⟩ := H; (try go_wp2); (have n0_ := Aside0.mk (blk_drew BK224.out)); (have n1_ := Aside0.mk (below_drew1 HB.out)); clear BK224; clear HB; (have BK224 := n0_); (have HB := n1_); clear n0_ n1_; (have p227 : 0 ≤ (x9_1 : Int) := of_decide_eq_true (by assumption)); (have q227 : x9_1 < (l0.length : Int) := of_decide_eq_true (by assumption)); obtain ⟨ad227, e227, hx227_0, hx227_1, hx227_2⟩ := at_T50 HR0.out x9_1 p227 q227; (have hw227_2 := hx227_2); (have hw227_1 := hx227_1); (have hw227_0 := hx227_0); cases e227; (replace hx227_0 := ct HB hx227_0); (replace hx227_1 := ct HB hx227_1); (replace hx227_2 := ct HB hx227_2); (replace p227 := eq_true p227); (replace q227 := eq_true q227); (refine start_ (n := 16) (S := fun w' => w'.cell? ⟨gb224, 0, none⟩ = some (.int .i64 a1_0) ∧ w'.cell? ⟨gb224, 1, none⟩ = some (.int .u64 a1_1) ∧ w'.cell? ⟨gb224, 2, none⟩ = some (.int .i64 a1_2) ∧ w'.cell? (ad227.add ((x9_1).toNat * 3)) = some (.int .i64 ((rd_T50 l0 x9_1).f0)) ∧ w'.cell? ⟨(ad227.add ((x9_1).toNat * 3)).block, (ad227.add ((x9_1).toNat * 3)).off + 1, none⟩ = some (.int .u64 ((rd_T50 l0 x9_1).f1)) ∧ w'.cell? ⟨(ad227.add ((x9_1).toNat * 3)).block, (ad227.add ((x9_1).toNat * 3)).off + 2, none⟩ = some (.int .i64 ((rd_T50 l0 x9_1).f2))) (ds := []) (mk_ 0 16) (by kernel_rfl) rfl rfl ⟨(blk_cell BK224.out 0).trans rfl, (blk_cell BK224.out 1).trans rfl, (blk_cell BK224.out 2).trans rfl, (ct HB hw227_0), (ct HB hw227_1), (ct HB hw227_2)⟩ (fun hHeld => ?_); refine with_tabW batch_Change_55.tab8 batch_Change_55.bits8 (fun HT_ HW_ => ?_)); generalize wr.drew = w19 at BK224 HB hx227_0 hx227_1 hx227_2 hHeld ⊢; refine pv_ 0 35 (mk_ 1 15) HT_ ?_; refine pv_ 1 36 (mk_ 2 14) HT_ ?_; refine pv_ 2 37 (mk_ 3 13) HT_ ?_; refine pv_ 3 38 (mk_ 4 12) HT_ ?_; refine pv_ 4 39 (mk_ 5 11) HT_ ?_; refine pv_ 5 40 (mk_ 6 10) HT_ ?_; refine pv_ 6 41 (mk_ 7 9) HT_ ?_; refine pv_ 7 42 (mk_ 8 8) HT_ ?_; refine pv_ 8 43 (mk_ 9 7) HT_ ?_; (refine tv_ 9 44 (mk_ 10 6) HT_ HW_ hHeld (hy := by rintro w' ⟨s0, s1, s2, s3, s4, s5⟩; go_simp; with_reducible rfl) (h := ?_)); (refine tv_ 10 45 (mk_ 11 5) HT_ HW_ hHeld (hy := by rintro w' ⟨s0, s1, s2, s3, s4, s5⟩; go_simp; with_reducible rfl) (h := ?_)); (refine one_ (i := 11) (N := some 46) (mk_ 12 4) rfl rfl (one_of HT_.out (by kernel_rfl)) (by decide) (fun K hK => ?_)); refine goesTT_ Try.func53 (by kernel_rfl) rfl #[.agg #[.int .i64 ((rd_T50 l0 x9_1).f0), .int .u64 ((rd_T50 l0 x9_1).f1), .int .i64 ((rd_T50 l0 x9_1).f2)], .agg #[.int .i64 a1_0, .int .u64 a1_1, .int .i64 a1_2]] (by rfl) rfl rfl rfl am_ ?_; (with_reducible refine (batch_order.calls k1 ((rd_T50 l0 x9_1).f0) ((rd_T50 l0 x9_1).f1) ((rd_T50 l0 x9_1).f2) a1_0 a1_1 a1_2 t228 _ A18.out).mono ?_)
       rintro e w20 ⟨rfl, hb⟩; refine ⟨_, rfl, ?_⟩; (have n0_ := Aside0.mk (bkb BK224 hb)); (have n1_ := Aside0.mk (below_step (bn1 HB GE224) hb)); clear BK224; clear HB; (have BK224 := n0_); (have HB := n1_); clear n0_ n1_; (refine hK.out _ _ ⟨(blk_cell BK224.out 0).trans rfl, (blk_cell BK224.out 1).trans rfl, (blk_cell BK224.out 2).trans rfl, (ct HB hw227_0), (ct HB hw227_1), (ct HB hw227_2)⟩ (fun hHeld => ?_)); clear hK K; refine norm_ (a' := ?_) ?_ ?_; rotate_left
       ·(show Act.put _ (some 46) _ = _); simp only [Act.put, List.setIfInBounds_toArray, List.set_cons_zero, List.set_cons_succ, i64_w, i32_w]; rfl
       refine pv_ 12 47 (mk_ 13 3) HT_ ?_; refine pv_ 13 48 (mk_ 14 2) HT_ ?_; refine pv_ 14 6 (mk_ 15 1) HT_ ?_; refine pv_ 15 7 (mk_ 16 0) HT_ ?_; refine done_ (done_of HT_.out (by kernel_rfl)) ?_; (try go_wp2); go_ret2; (exact ⟨by first | rfl | (simp [errW_none, errW_some] <;> rfl) | (simp [*, errW_none, errW_some] <;> rfl), bn1 HB GE224⟩)
      ·rw [if_neg c17] at H; (exact absurd H (by simp))
     ·rw [if_neg c16] at H; (exact absurd H (by simp))
    ·rw [if_neg c15] at H; (have c15b0 : decide (x9_1 < (l0.length : Int)) = false := decide_eq_false c15); clear c15; simp only [Option.some.injEq, Prod.mk.injEq] at H; obtain ⟨rfl, rfl⟩ := H; (try go_wp2); (have n0_ := Aside0.mk (blk_drew BK224.out)); (have n1_ := Aside0.mk (below_drew1 HB.out)); clear BK224; clear HB; (have BK224 := n0_); (have HB := n1_); clear n0_ n1_; (refine start_ (n := 16) (S := fun w' => True) (ds := []) (mk_ 0 16) (by kernel_rfl) rfl rfl trivial (fun hHeld => ?_); refine with_tabW batch_Change_55.tab8 batch_Change_55.bits8 (fun HT_ HW_ => ?_)); generalize wr.drew = w21 at BK224 HB hHeld ⊢; refine pv_ 0 35 (mk_ 1 15) HT_ ?_; refine pv_ 1 36 (mk_ 2 14) HT_ ?_; refine pv_ 2 37 (mk_ 3 13) HT_ ?_; refine pv_ 3 38 (mk_ 4 12) HT_ ?_; refine pv_ 4 39 (mk_ 5 11) HT_ ?_; refine pu_ 5 40 (mk_ 6 10) HT_ ?_; refine pu_ 6 41 (mk_ 7 9) HT_ ?_; refine pu_ 7 42 (mk_ 8 8) HT_ ?_; refine pu_ 8 43 (mk_ 9 7) HT_ ?_; refine pu_ 9 44 (mk_ 10 6) HT_ ?_; refine pu_ 10 45 (mk_ 11 5) HT_ ?_; refine pu_ 11 46 (mk_ 12 4) HT_ ?_; refine pu_ 12 47 (mk_ 13 3) HT_ ?_; refine pv_ 13 48 (mk_ 14 2) HT_ ?_; refine pv_ 14 6 (mk_ 15 1) HT_ ?_; refine pv_ 15 7 (mk_ 16 0) HT_ ?_; refine done_ (done_of HT_.out (by kernel_rfl)) ?_; (try go_wp2); go_ret2; (exact ⟨by first | rfl | (simp [errW_none, errW_some] <;> rfl) | (simp [*, errW_none, errW_some] <;> rfl), bn1 HB GE224⟩)
/-! ### batch_Of: function 23 -/
def batch_Of.f (k : Nat) (l0 : List (S50)) (a1 : Int) (a2 : Int) : Option (Int) := (batch_Change_55.f k l0 a1 a2 0).bind fun bt229 => (if bt229.2 = true then (if 0 ≤ bt229.1 then (if bt229.1 < (l0.length : Int) then (some ((rd_T50 l0 bt229.1).f2)) else (none)) else (none)) else (some 0))
set_option maxHeartbeats 8000000 in
set_option maxRecDepth 100000 in
theorem batch_Of.calls (k : Nat) (A0 : Option Addr) (c0 : Nat) (l0 : List (S50)) (a1 : Int) (a2 : Int) (r : Int) (w : World) (hr0 : Kd.C k50 w A0 l0.length l0) (hc0 : l0.length ≤ c0) (h : batch_Of.f k l0 a1 a2 = some r) :
  Calls Try.prog 23 #[.slice A0 l0.length c0, .int .i64 a1, .int .u64 a2] w fun e w' => e = .returned (.int .i64 r) ∧ Below w.heap.size w w' := by
 (have hu50 := Try.underlying50); (have HR0 := Aside0.mk hr0); (have HC0 := Aside0.mk hc0); clear hr0 hc0; (have HB := Aside0.mk (Below.refl w.heap.size w)); (have H : ((batch_Change_55.f k l0 a1 a2 0).bind fun bt229 => (if bt229.2 = true then (if 0 ≤ bt229.1 then (if bt229.1 < (l0.length : Int) then (some ((rd_T50 l0 bt229.1).f2)) else (none)) else (none)) else (some 0))) = some r := h); clear h; (replace H := Option.bind_eq_some_iff.mp H); obtain ⟨⟨t229, t230⟩, A40, H⟩ := H; (replace H : (if t230 = true then (if 0 ≤ t229 then (if t229 < (l0.length : Int) then (some ((rd_T50 l0 t229).f2)) else (none)) else (none)) else (some 0)) = some r := H); (have A4 := Aside0.mk A40); clear A40; by_cases c5 : t230 = true
 ·subst c5; (have H1 : (if 0 ≤ t229 then (if t229 < (l0.length : Int) then (some ((rd_T50 l0 t229).f2)) else (none)) else (none)) = some r := by rw [if_pos rfl] at H; exact H); clear H; (have H := H1); clear H1; by_cases c6 : 0 ≤ t229
  ·rw [if_pos c6] at H; (have c6b0 : decide (0 ≤ t229) = true := decide_eq_true c6); clear c6; by_cases c7 : t229 < (l0.length : Int)
   ·rw [if_pos c7] at H; (have c7b0 : decide (t229 < (l0.length : Int)) = true := decide_eq_true c7); clear c7; obtain rfl := Option.some.inj H; go_enter Try.func23, Try.ntmps23; (go_wp2_with (first | ((with_reducible refine gate_callee (f := 55) rfl ?_); refine gl (some 14) Try.func55 #[.slice A0 l0.length c0, .agg #[.int .i64 a1, .int .u64 a2, .int .i64 0], .func (.func 53) #[] #[]] ?_; (with_reducible refine (batch_Change_55.calls k _ _ l0 a1 a2 0  t229 true _ ?side1 ?side2 A4.out).mono ?_); (case side1 => exact cn HR0.out); (case side2 => exact HC0.out); rintro e w8 ⟨rfl, hb⟩; refine ⟨_, rfl, ?_⟩; replace HB := bb HB hb; (try clear hb); have p231 : 0 ≤ (t229 : Int) := of_decide_eq_true (by assumption); have q231 : t229 < (l0.length : Int) := of_decide_eq_true (by assumption); obtain ⟨ad231, e231, hx231_0, hx231_1, hx231_2⟩ := at_T50 HR0.out t229 p231 q231; cases e231; replace hx231_0 := ct HB hx231_0; replace hx231_1 := ct HB hx231_1; replace hx231_2 := ct HB hx231_2; replace p231 := eq_true p231; replace q231 := eq_true q231))); go_ret; (exact ⟨by first | rfl | (simp [errW_none, errW_some] <;> rfl) | (simp [*, errW_none, errW_some] <;> rfl), bn HB⟩)
   ·rw [if_neg c7] at H; (exact absurd H (by simp))
  ·rw [if_neg c6] at H; (exact absurd H (by simp))
 ·(replace c5 := Bool.eq_false_iff.mpr c5); subst c5; (have H1 : (some 0) = some r := by rw [if_neg (show ¬ (false = true) by decide)] at H; exact H); clear H; (have H := H1); clear H1; obtain rfl := Option.some.inj H; go_enter Try.func23, Try.ntmps23; (go_wp2_with (first | ((with_reducible refine gate_callee (f := 55) rfl ?_); refine gl (some 14) Try.func55 #[.slice A0 l0.length c0, .agg #[.int .i64 a1, .int .u64 a2, .int .i64 0], .func (.func 53) #[] #[]] ?_; (with_reducible refine (batch_Change_55.calls k _ _ l0 a1 a2 0  t229 false _ ?side1 ?side2 A4.out).mono ?_); (case side1 => exact cn HR0.out); (case side2 => exact HC0.out); rintro e w9 ⟨rfl, hb⟩; refine ⟨_, rfl, ?_⟩; replace HB := bb HB hb; (try clear hb)))); go_ret; (exact ⟨by first | rfl | (simp [errW_none, errW_some] <;> rfl) | (simp [*, errW_none, errW_some] <;> rfl), bn HB⟩)
theorem heap50 : Kd.Heap k50 := Kd.heap_iso _ (Kd.heap_pair (Kd.heap_int .i64) (Kd.heap_pair (Kd.heap_int .u64) (Kd.heap_int .i64)))
def bag_below (k : Nat) (l0 : List S50) (x : S50) : Option Bool := (batch_Of.f k l0 x.f0 x.f1).bind fun t => some (decide (wrap64 (t + x.f2) < 0))
theorem below_next {W w1 w' : World} {g : Nat} {u v0 v1 v2 : Value} (hgl : g < W.heap.size) (hS : w1.cell? ⟨g, 0, none⟩ = some u ∧ w1.cell? ⟨W.heap.size, 0, none⟩ = some v0 ∧ w1.cell? ⟨W.heap.size, 1, none⟩ = some v1 ∧ w1.cell? ⟨W.heap.size, 2, none⟩ = some v2 ∧ Below W.heap.size W w1 ∧ W.heap.size < w1.heap.size) (hb : Below w1.heap.size w1 w') :
  w'.cell? ⟨g, 0, none⟩ = some u ∧ w'.cell? ⟨W.heap.size, 0, none⟩ = some v0 ∧ w'.cell? ⟨W.heap.size, 1, none⟩ = some v1 ∧ w'.cell? ⟨W.heap.size, 2, none⟩ = some v2 ∧ Below W.heap.size W w' ∧ W.heap.size < w'.heap.size := by
 obtain ⟨hg, h0, h1, h2, hB, hs⟩ := hS
 exact ⟨(hb.cell (p := ⟨g, 0, none⟩) (Nat.lt_trans hgl hs)).trans hg, (hb.cell (p := ⟨W.heap.size, 0, none⟩) hs).trans h0, (hb.cell (p := ⟨W.heap.size, 1, none⟩) hs).trans h1, (hb.cell (p := ⟨W.heap.size, 2, none⟩) hs).trans h2, below_step hB hb, Nat.lt_of_lt_of_le hs hb.size⟩
theorem below_last {W w1 : World} {g : Nat} {u v0 v1 v2 : Value} (hS : w1.cell? ⟨g, 0, none⟩ = some u ∧ w1.cell? ⟨W.heap.size, 0, none⟩ = some v0 ∧ w1.cell? ⟨W.heap.size, 1, none⟩ = some v1 ∧ w1.cell? ⟨W.heap.size, 2, none⟩ = some v2 ∧ Below W.heap.size W w1 ∧ W.heap.size < w1.heap.size) : Below W.heap.size W w1 := hS.2.2.2.2.1
theorem below_reads {W w1 : World} {g : Nat} {u v0 v1 v2 : Value} {A0 : Option Addr} {n : Nat} {l0 : List S50} (hr : Kd.C k50 W A0 n l0) (hS : w1.cell? ⟨g, 0, none⟩ = some u ∧ w1.cell? ⟨W.heap.size, 0, none⟩ = some v0 ∧ w1.cell? ⟨W.heap.size, 1, none⟩ = some v1 ∧ w1.cell? ⟨W.heap.size, 2, none⟩ = some v2 ∧ Below W.heap.size W w1 ∧ W.heap.size < w1.heap.size) : Kd.C k50 w1 A0 n l0 := Kd.C_below hr hS.2.2.2.2.1
set_option maxHeartbeats 1000000 in
set_option maxRecDepth 100000 in
theorem below_calls (k : Nat) (x : S50) (g : Nat) (A0 : Option Addr) (c0 : Nat) (l0 : List S50) (t : Int) (W : World) (hg : W.cell? ⟨g, 0, none⟩ = some (.slice A0 l0.length c0)) (hr : Kd.C k50 W A0 l0.length l0) (hc : l0.length ≤ c0) (ht : batch_Of.f k l0 x.f0 x.f1 = some t) :
  Calls Try.prog 58 (#[.agg #[.int .i64 x.f0, .int .u64 x.f1, .int .i64 x.f2]] ++ #[.pointer (some ⟨g, 0, none⟩)]) W fun e w' => e = .returned (.bool (decide (wrap64 (t + x.f2) < 0))) ∧ Below W.heap.size W w' := by
 show Calls Try.prog 58 #[.agg #[.int .i64 x.f0, .int .u64 x.f1, .int .i64 x.f2], .pointer (some ⟨g, 0, none⟩)] W _
 have hgl := World.block_lt_of_cell? W _ hg
 have HR := Aside0.mk hr
 have HC := Aside0.mk hc
 have HT := Aside0.mk ht
 have HG := Aside0.mk hg
 have HL := Aside0.mk hgl
 clear hr hc ht hg hgl
 go_enter Try.func58, Try.ntmps58
 go_wp2_with fail
 have s0 : Below W.heap.size W (W.alloc (.cells #[.int .i64 x.f0, .int .u64 x.f1, .int .i64 x.f2] 50)) := (Below.refl _ _).alloc (Nat.le_refl _) _
 have s1 : (W.alloc (.cells #[.int .i64 x.f0, .int .u64 x.f1, .int .i64 x.f2] 50)).cell? ⟨W.heap.size, 0, none⟩ = some (.int .i64 x.f0) := by simp [go_sem]
 have s2 : (W.alloc (.cells #[.int .i64 x.f0, .int .u64 x.f1, .int .i64 x.f2] 50)).cell? ⟨W.heap.size, 1, none⟩ = some (.int .u64 x.f1) := by simp [go_sem]
 have s3 : (W.alloc (.cells #[.int .i64 x.f0, .int .u64 x.f1, .int .i64 x.f2] 50)).cell? ⟨W.heap.size, 2, none⟩ = some (.int .i64 x.f2) := by simp [go_sem]
 have s4 : (W.alloc (.cells #[.int .i64 x.f0, .int .u64 x.f1, .int .i64 x.f2] 50)).cell? ⟨g, 0, none⟩ = some (.slice A0 l0.length c0) := (s0.cell (p := ⟨g, 0, none⟩) HL.out).trans HG.out
 have s5 : W.heap.size < (W.alloc (.cells #[.int .i64 x.f0, .int .u64 x.f1, .int .i64 x.f2] 50)).heap.size := by simp
 generalize W.alloc (.cells #[.int .i64 x.f0, .int .u64 x.f1, .int .i64 x.f2] 50) = W1 at *
 go_region_held3 (fun w' => w'.cell? ⟨g, 0, none⟩ = some (.slice A0 l0.length c0) ∧ w'.cell? ⟨W.heap.size, 0, none⟩ = some (.int .i64 x.f0) ∧ w'.cell? ⟨W.heap.size, 1, none⟩ = some (.int .u64 x.f1) ∧ w'.cell? ⟨W.heap.size, 2, none⟩ = some (.int .i64 x.f2) ∧ Below W.heap.size W w' ∧ W.heap.size < w'.heap.size)
  (first | exact ⟨s4, s1, s2, s3, below_drew s0, s5⟩ | exact hN)
  (first | (go_at_call 23; refine (batch_Of.calls k A0 c0 l0 x.f0 x.f1 t _ ?_ HC.out HT.out).mono ?_; (exact below_reads (g := g) HR.out (by assumption)); rintro e w' ⟨rfl, hb⟩; have hN := below_next HL.out (by assumption) hb; clear hb))
 go_wp2
 go_ret
 exact ⟨by rw [← i64_w]; rfl, below_last (g := g) (by assumption)⟩
def bag_Apply.f (k : Nat) (l0 l1 : List S50) : Option (List S50 × Int) :=
 if l1.all (fun x => (bag_below k l0 x).isSome) = true then (if l1.any (fun x => bag_below k l0 x == some true) = true then some ([], 11) else batch_Merge.f k l0 l1) else none
set_option maxHeartbeats 1000000 in
set_option maxRecDepth 100000 in
theorem bag_Apply.calls (k : Nat) (A0 : Option Addr) (c0 : Nat) (l0 : List S50) (A1 : Option Addr) (c1 : Nat) (l1 : List S50) (r1 : List S50) (r2 : Int) (w : World) (hr0 : Kd.C k50 w A0 l0.length l0) (hc0 : l0.length ≤ c0) (hr1 : Kd.C k50 w A1 l1.length l1) (hc1 : l1.length ≤ c1) (h : bag_Apply.f k l0 l1 = some (r1, r2)) :
  Calls Try.prog 27 #[.slice A0 l0.length c0, .slice A1 l1.length c1] w fun e w' => ∃ v0_ : Value, e = .returned (.tuple #[v0_, .int .i64 r2]) ∧ Kd.R k50 50 w' w.heap.size (fun _ => True) v0_ r1 ∧ Below w.heap.size w w' := by
 unfold bag_Apply.f at h
 by_cases hall : l1.all (fun x => (bag_below k l0 x).isSome) = true
 ·rw [if_pos hall] at h
  have hs : ∀ x, x ∈ l1 → ∃ t, batch_Of.f k l0 x.f0 x.f1 = some t ∧ (bag_below k l0 x == some true) = decide (wrap64 (t + x.f2) < 0) := fun x hx => by
   have h2 := List.all_eq_true.1 hall x hx
   unfold bag_below at h2 ⊢
   cases ht : batch_Of.f k l0 x.f0 x.f1 with
   | none => rw [ht] at h2; simp at h2
   | some t => exact ⟨t, rfl, by simp⟩
  clear hall
  have hB0 : Below w.heap.size w (w.alloc (.cells #[.slice A0 l0.length c0] 25)) := (Below.refl _ _).alloc (Nat.le_refl _) _
  have hg0 : (w.alloc (.cells #[.slice A0 l0.length c0] 25)).cell? ⟨w.heap.size, 0, none⟩ = some (.slice A0 l0.length c0) := by simp [go_sem]
  have hlt0 : w.heap.size < (w.alloc (.cells #[.slice A0 l0.length c0] 25)).heap.size := by simp
  have hcf := containsFunc_calls 58 #[.pointer (some ⟨w.heap.size, 0, none⟩)] (fun x => bag_below k l0 x == some true) (fun args w => enters_ Try.func58 (by kernel_rfl) rfl args w) A1 c1 l1 (w.alloc (.cells #[.slice A0 l0.length c0] 25)) (Kd.C_below hr1 hB0)
   (fun W hW x hx => by
    obtain ⟨t, ht, hd⟩ := hs x hx
    refine (below_calls k x w.heap.size A0 c0 l0 t W ((hW.cell (p := ⟨w.heap.size, 0, none⟩) hlt0).trans hg0) (Kd.C_below (Kd.C_below hr0 hB0) hW) hc0 ht).mono ?_
    rintro e w' ⟨he, hb⟩
    exact ⟨by rw [he, hd], hb⟩)
  generalize hany : l1.any (fun x => bag_below k l0 x == some true) = q at h hcf
  have HCF := Aside0.mk hcf
  have HR0 := Aside0.mk hr0
  have HR1 := Aside0.mk hr1
  have HC0 := Aside0.mk hc0
  have HC1 := Aside0.mk hc1
  have HB0 := Aside0.mk hB0
  have HG0 := Aside0.mk hg0
  have HLT0 := Aside0.mk hlt0
  clear hcf hr0 hr1 hc0 hc1 hB0 hg0 hlt0 hany hs
  cases q with
  | true =>
   rw [if_pos rfl] at h
   obtain ⟨rfl, rfl⟩ := Prod.mk.inj (Option.some.inj h)
   clear h
   go_enter Try.func27, Try.ntmps27
   go_wp2_with (first | (go_at_call 59; refine HCF.out.mono ?_; rintro e w3 ⟨rfl, hb⟩; have HB3 := Aside0.mk (below_step HB0.out hb); clear hb))
   go_ret2
   exact ⟨_, rfl, Kd.R_nil _ _ _ _ _, HB3.out⟩
  | false =>
   rw [if_neg (by decide)] at h
   have HM := Aside0.mk h
   clear h
   go_enter Try.func27, Try.ntmps27
   go_wp2_with (first | (go_at_call 59; refine HCF.out.mono ?_; rintro e w3 ⟨rfl, hb⟩; have HB3 := Aside0.mk (below_step HB0.out hb); have hg3 := (hb.cell (p := ⟨w.heap.size, 0, none⟩) HLT0.out).trans HG0.out; clear hb) | (go_at_call 25; refine (batch_Merge.calls k (fun k_ => k_ < w.heap.size) A0 c0 l0 (fun k_ => k_ < w.heap.size) A1 c1 l1 r1 r2 _ ?s0 ?s1 HM.out).mono ?_; (case s0 => exact Kd.V_mk HC0.out (Kd.F_below (Kd.C_F heap50 HR0.out) HB3.out)); (case s1 => exact Kd.V_mk HC1.out (Kd.F_below (Kd.C_F heap50 HR1.out) HB3.out)); rintro e w4 ⟨v4, rfl, ho, hb⟩; have HB4 := Aside0.mk (below_step HB3.out hb); have HO4 := Aside0.mk (Kd.R_lower (Kd.R_mono ho (fun _ _ => trivial)) HB3.out.size); clear ho hb))
   go_ret2
   exact ⟨_, rfl, HO4.out, HB4.out⟩
 ·rw [if_neg hall] at h
  cases h
attribute [local go_sem] max2_int min2_int max_two min_two max_three min_three max_four min_four
theorem at_F7 {w : World} {ok : Nat → Prop} {A : Option Addr} {n : Nat} {xs : List (List Int)} (h : Kd.F (Kd.slice 38 (Kd.int .u64)) w ok A n xs) (i : Int) (h0 : 0 ≤ i) (h1 : i < n) : ∃ ad A0 c0, A = some ad ∧ w.cell? (ad.add i.toNat) = some (.slice A0 (rd_L7 xs i).length c0) ∧ (rd_L7 xs i).length ≤ c0 ∧ Kd.F (Kd.int .u64) w ok A0 (rd_L7 xs i).length (rd_L7 xs i) ∧ ok ad.block := by
 obtain ⟨ad, c, e, _, hK, hc0, hin⟩ := Kd.F_get h ([] : List Int) i h0 h1
 have hc : ∀ j u, c[j]? = some u → w.cell? (ad.add (i.toNat * 1 + j)) = some u := hc0
 obtain ⟨A0, c0, rfl, l0, g0⟩ := Foot.now hK
 refine ⟨ad, A0, c0, e, by have hq := hc 0 _ rfl; rwa [Nat.mul_one, Nat.add_zero] at hq, l0, fun W' hW => ?_, hin (by decide)⟩
 obtain ⟨A1, c1, e1, l1, g1⟩ := hK W' hW
 cases e1
 exact g1
structure St (W : World) (base g : Nat) (pv bv fv : Value) (F : List Int) (wr : World) : Prop where
 hg : wr.heap[g]? = some (.cells #[pv, bv, fv] 118 (0, 0))
 hF : Kd.R (Kd.int .u64) 38 wr base (fun k => k ≠ g) fv F
 kept : Kept W wr (fun k => k = g ∨ some k = fv.ownBlock)
 bel : Below base W wr
theorem St.below {W : World} {base g : Nat} {pv bv fv : Value} {F : List Int} {wr w' : World} (h : St W base g pv bv fv F wr) (hbg : base ≤ g) (hb : Below wr.heap.size wr w') : St W base g pv bv fv F w' :=
 ⟨blk_below h.hg hb, Kd.R_below h.hF hb, h.kept.below hb, h.bel.trans (hb.mono (by have := blk_lt h.hg; omega))⟩
theorem St.cell {W : World} {base g : Nat} {pv bv fv : Value} {F : List Int} {wr : World} (h : St W base g pv bv fv F wr) : wr.cell? ⟨g, 0, none⟩ = some pv ∧ wr.cell? ⟨g, 1, none⟩ = some bv ∧ wr.cell? ⟨g, 2, none⟩ = some fv ∧ wr.frozen? ⟨g, 1, none⟩ = false ∧ wr.frozen? ⟨g, 2, none⟩ = false := by
 refine ⟨?_, ?_, ?_, blk_frozen h.hg 1, blk_frozen h.hg 2⟩ <;> (rw [blk_cell h.hg]; rfl)
theorem St.put {W : World} {base g gf fn fc : Nat} {pv bv : Value} {F : List Int} {wr : World} (h : St W base g pv bv (.slice (some ⟨gf, 0, none⟩) fn fc) F wr) (j x : Int) : St W base g pv bv (.slice (some ⟨gf, 0, none⟩) fn fc) (F.set j.toNat x) (wr.setCell ⟨gf, j.toNat, none⟩ (.int .u64 x)) :=
 have hne : gf ≠ g := h.hF.1 gf rfl
 ⟨blk_far h.hg (fun e => hne e.symm) _, Kd.R_putn h.hF j x, h.kept.setCell (p := ⟨gf, j.toNat, none⟩) (.inl (.inr rfl)) _, h.bel.setCell (p := ⟨gf, j.toNat, none⟩) (Kd.R_base h.hF gf rfl) _⟩
theorem hold_next {W : World} {base g n : Nat} {pv bv fv : Value} {F : List Int} {x : Value} {w1 w' : World} (hbg : base ≤ g) (h : w1.cell? ⟨n, 0, none⟩ = some x ∧ n < w1.heap.size ∧ St W base g pv bv fv F w1) (hb : Below w1.heap.size w1 w') : w'.cell? ⟨n, 0, none⟩ = some x ∧ n < w'.heap.size ∧ St W base g pv bv fv F w' :=
 ⟨(hb.cell (p := ⟨n, 0, none⟩) h.2.1).trans h.1, Nat.lt_of_lt_of_le h.2.1 hb.size, h.2.2.below hbg hb⟩
theorem hold_C {W : World} {base g n : Nat} {pv bv fv : Value} {F : List Int} {x : Value} {w' : World} {A : Option Addr} {m : Nat} {l : List S50} (hF : Kd.F k50 W (fun k => ¬ (k = g ∨ some k = fv.ownBlock)) A m l) (h : w'.cell? ⟨n, 0, none⟩ = some x ∧ n < w'.heap.size ∧ St W base g pv bv fv F w') : Kd.C k50 w' A m l := Kd.F_now (Kd.F_kept hF h.2.2.kept (fun _ hk => hk))
def turn_l2 : Nat → Int → List Int → List Int → Int → Option (List Int)
 | 0, _, _, _, _ => none
 | k + 1, t, row, F, j => if j < (row.length : Int) then (if j < (F.length : Int) then (stamp_Plus.f t (rd row j)).bind fun s => turn_l2 k t row (F.set j.toNat (mn (rd F j) s)) (j + 1) else none) else some F
def turn_l1 : Nat → List (List Int) → List S50 → List S50 → List Int → Int → Option (List Int)
 | 0, _, _, _, _, _ => none
 | k + 1, P, b, c, F, i => if i < (c.length : Int) then ((bag_Least.f k b (rd_T50 c i).f0).bind fun t => if 0 ≤ (rd_T50 c i).f0 then (if (rd_T50 c i).f0 < (P.length : Int) then (turn_l2 k t (rd_L7 P (rd_T50 c i).f0) F 0).bind fun F' => turn_l1 k P b c F' (i + 1) else none) else none) else some F
def turn_l0 : Nat → List (List Int) → List S50 → List S50 → List S50 → List Int → Int → Option (List Int)
 | 0, _, _, _, _, _, _ => none
 | k + 1, P, was, b, c, F, i => if i < (c.length : Int) then ((bag_Least.f k b (rd_T50 c i).f0).bind fun t => (bag_Least.f k was (rd_T50 c i).f0).bind fun u => if t > u then front_Of.f k P b else turn_l0 k P was b c F (i + 1)) else turn_l1 k P b c F 0
def turn.T15 : Bool × List (List Nat × List Nat) := (true, [([], []), ([0], [0]), ([1], [1]), ([2], [2]), ([], []), ([], []), ([5], [5]), ([6], [6]), ([7], [7]), ([], []), ([8, 9], [8, 9]), ([10], [10]), ([], []), ([], []), ([12, 13], [12, 13]), ([11, 14], [11, 14]), ([3, 4, 0, 1, 2, 3, 4, 5, 6, 7, 8, 9, 10, 11, 12, 13, 14, 15], [3, 4]), ([16, 15, 14, 0, 1, 2, 3, 4, 5, 6, 7, 8, 9, 10, 11, 12, 13, 14, 15], [15, 16])])
def turn.B15 : List Nat := [0, 1, 3, 7, 0, 0, 32, 96, 224, 0, 992, 2016, 0, 0, 12288, 32736, 65535, 131071]
theorem turn.tab15 : rtab .any (opsOf Try.f85 15) = turn.T15 := by kernel_rfl
theorem turn.bits15 : waitsOk turn.T15.2 turn.B15 = true := by kernel_rfl
set_option maxHeartbeats 4000000 in
set_option maxRecDepth 100000 in
theorem turn_calls (k g base : Nat) (pA : Option Addr) (pc : Nat) (P : List (List Int)) (wA : Option Addr) (wc : Nat) (was : List S50) (bA : Option Addr) (bc : Nat) (b : List S50) (cA : Option Addr) (cc : Nat) (c : List S50) (fA : Option Addr) (fn fc : Nat) (F r : List Int) (W : World)
  (hg : W.heap[g]? = some (.cells #[.slice pA P.length pc, .slice wA was.length wc, .slice fA fn fc] 118 (0, 0))) (hbg : base ≤ g)
  (hF : Kd.R (Kd.int .u64) 38 W base (fun k => k ≠ g) (.slice fA fn fc) F)
  (hP : Kd.F (Kd.slice 38 (Kd.int .u64)) W (fun k => ¬ (k = g ∨ some k = (Value.slice fA fn fc).ownBlock)) pA P.length P) (hpc : P.length ≤ pc)
  (hw : Kd.F k50 W (fun k => ¬ (k = g ∨ some k = (Value.slice fA fn fc).ownBlock)) wA was.length was) (hwc : was.length ≤ wc)
  (hb : Kd.F k50 W (fun k => ¬ (k = g ∨ some k = (Value.slice fA fn fc).ownBlock)) bA b.length b) (hbc : b.length ≤ bc)
  (hc : Kd.F k50 W (fun k => ¬ (k = g ∨ some k = (Value.slice fA fn fc).ownBlock)) cA c.length c) (hcc : c.length ≤ cc)
  (h : turn_l0 k P was b c F 0 = some r) :
  Calls Try.prog 85 #[.pointer (some ⟨g, 0, none⟩), .slice cA c.length cc, .slice bA b.length bc] W fun e w' => e = .returned (.tuple #[]) ∧ ∃ fv', w'.heap[g]? = some (.cells #[.slice pA P.length pc, .slice bA b.length bc, fv'] 118 (0, 0)) ∧ Kd.R (Kd.int .u64) 38 w' base (fun k => k ≠ g) fv' r ∧ Kept W w' (fun k => k = g ∨ some k = (Value.slice fA fn fc).ownBlock) ∧ Below base W w' := by
 have HS0 := Aside0.mk (St.mk hg hF (Kept.refl W _) (Below.refl base W))
 obtain ⟨hx0, hx1, hx2, hz1, hz2⟩ := HS0.out.cell
 have HP := Aside0.mk hP
 have HW := Aside0.mk hw
 have HBb := Aside0.mk hb
 have HCc := Aside0.mk hc
 have HH := Aside0.mk h
 have hmx := (Kd.F_now hc).2.1
 clear hP hw hb hc h hF
 have HS1 : Aside0 (St W base g (.slice pA P.length pc) (.slice bA b.length bc) (.slice fA fn fc) F (W.setCell ⟨g, 1, none⟩ (.slice bA b.length bc))) := ⟨by
  have h0 := HS0.out
  exact ⟨blk_put h0.hg 1 _ rfl, Kd.R_far h0.hF (fun _ hk => hk) _, h0.kept.setCell (.inl (.inl rfl)) _, h0.bel.setCell hbg _⟩⟩
 go_enter Try.func85, Try.ntmps85
 go_wp2
 generalize W.setCell ⟨g, 1, none⟩ (.slice bA b.length bc) = W1 at *
 clear hx0 hx1 hx2 hz1 hz2
 go_loopg [24] k (fun kq v24 wr => ∃ i : Int, v24 = .int .i64 i ∧ Aside0 (0 ≤ i ∧ turn_l0 kq P was b c F i = some r) ∧ Aside0 (kq ≤ k) ∧ Aside0 (St W base g (.slice pA P.length pc) (.slice bA b.length bc) (.slice fA fn fc) F wr))
 case atStart => exact ⟨0, rfl, ⟨by omega, HH.out⟩, ⟨Nat.le_refl _⟩, HS1⟩
 case round =>
  obtain ⟨m, rfl, HI, HK1, HS⟩ := hrel
  have i0 := HI.out.1
  cases gk with
  | zero => exact absurd HI.out.2 (by simp [turn_l0])
  | succ k1 =>
   have H := HI.out.2
   simp only [turn_l0] at H
   by_cases ci : m < (c.length : Int)
   ·rw [if_pos ci] at H
    have hltb := decide_eq_true ci
    obtain ⟨t, ht, H⟩ := Option.bind_eq_some_iff.1 H
    obtain ⟨u, hu, H⟩ := Option.bind_eq_some_iff.1 H
    have HT := Aside0.mk ht
    have HU := Aside0.mk hu
    have HQ := Aside0.mk H
    clear ht hu H
    obtain ⟨ad, rfl, hx0, hx1, hx2⟩ := at_T50 (Kd.F_now (Kd.F_kept HCc.out HS.out.kept (fun _ hk => hk))) m i0 ci
    go_wp2
    have s0 : Aside0 (St W base g (.slice pA P.length pc) (.slice bA b.length bc) (.slice fA fn fc) F (wr.alloc (.cells #[.int .i64 (rd_T50 c m).f0, .int .u64 (rd_T50 c m).f1, .int .i64 (rd_T50 c m).f2] 50))) := ⟨HS.out.below hbg (below_alloc (Below.refl _ _) _)⟩
    have s1 : (wr.alloc (.cells #[.int .i64 (rd_T50 c m).f0, .int .u64 (rd_T50 c m).f1, .int .i64 (rd_T50 c m).f2] 50)).cell? ⟨wr.heap.size, 0, none⟩ = some (.int .i64 (rd_T50 c m).f0) := by simp [go_sem]
    have s2 : wr.heap.size < (wr.alloc (.cells #[.int .i64 (rd_T50 c m).f0, .int .u64 (rd_T50 c m).f1, .int .i64 (rd_T50 c m).f2] 50)).heap.size := by simp
    generalize wr.alloc (.cells #[.int .i64 (rd_T50 c m).f0, .int .u64 (rd_T50 c m).f1, .int .i64 (rd_T50 c m).f2] 50) = W2 at *
    go_region_held3 (fun w' => w'.cell? ⟨wr.heap.size, 0, none⟩ = some (.int .i64 (rd_T50 c m).f0) ∧ wr.heap.size < w'.heap.size ∧ St W base g (.slice pA P.length pc) (.slice bA b.length bc) (.slice fA fn fc) F w')
     (first | exact ⟨s1, s2, s0.out.below hbg (below_drew (Below.refl _ _))⟩ | exact hN)
     (first | (go_at_call 30; (with_reducible refine (bag_Least.calls k1 bA bc b (rd_T50 c m).f0 t _ ?_ hbc HT.out).mono ?_); (exact hold_C HBb.out (by assumption)); rintro e w' ⟨rfl, hb⟩; have hN := hold_next hbg (by assumption) hb; clear hb) | (go_at_call 30; (with_reducible refine (bag_Least.calls k1 wA wc was (rd_T50 c m).f0 u _ ?_ hwc HU.out).mono ?_); (exact hold_C HW.out (by assumption)); rintro e w' ⟨rfl, hb⟩; have hN := hold_next hbg (by assumption) hb; clear hb))
    all_goals
     rename_i hH
     have HS3 := Aside0.mk hH.2.2
     clear hH s0 s1 s2
     obtain ⟨hy0, hy1, hy2, hz1, hz2⟩ := HS3.out.cell
     by_cases hgt : t > u
     ·have HQ2 := HQ.out
      rw [if_pos hgt] at HQ2
      have HOf := Aside0.mk HQ2
      have hd := decide_eq_true (show u < t from hgt)
      clear HQ2 hgt
      simp only [hd]
      go_wp2_with (first | (go_at_call 43; (with_reducible refine (front_Of.calls k1 pA pc P bA bc b r _ ?_ hpc ?_ hbc HOf.out).mono ?_); (exact Kd.F_now (Kd.F_kept HP.out HS3.out.kept (fun _ hk => hk))); (exact Kd.F_now (Kd.F_kept HBb.out HS3.out.kept (fun _ hk => hk))); rintro e w5 ⟨v5, rfl, ho, hb⟩; have HS5 := Aside0.mk (HS3.out.below hbg hb); obtain ⟨A5, c5, rfl⟩ := Kd.R_slice ho; have HO5 := Aside0.mk ho; obtain ⟨q0, q1, q2, q3, q4⟩ := HS5.out.cell; clear ho hb))
      ((try simp only [Exit.inBlock, Exit.then]); first | refine bodyPost_ret (results_none rfl _ _ _) rfl ?_ | refine bodyPost_end (results_none rfl _ _ _) rfl ?_)
      exact ⟨rfl, _, blk_put HS5.out.hg 2 _ rfl, Kd.R_far (Kd.R_lower (Kd.R_mono (Kd.R_bound HO5.out) (ok' := fun k => k ≠ g) (fun k hk => by have h1 := hk.2.1; have h2 := blk_lt HS3.out.hg; show k ≠ g; omega)) (by have := blk_lt HS3.out.hg; omega)) (fun k hk => hk) _, HS5.out.kept.setCell (p := ⟨g, 2, none⟩) (.inl (.inl rfl)) _, HS5.out.bel.setCell (p := ⟨g, 2, none⟩) hbg _⟩
     ·have HQ2 := HQ.out
      rw [if_neg hgt] at HQ2
      have HOf := Aside0.mk HQ2
      have hd := decide_eq_false (show ¬ u < t from hgt)
      clear HQ2 hgt
      simp only [hd]
      go_wp2
      go_roundg k1
      case measure => have := HK1.out; omega
      case rel => exact ⟨m + 1, by go_num, ⟨by omega, HOf.out⟩, ⟨by have := HK1.out; omega⟩, HS3⟩
   ·rw [if_neg ci] at H
    have hltb := decide_eq_false ci
    have HQ := Aside0.mk H
    clear H
    go_wp2
    go_loopg [49] k1 (fun kq v49 wr => ∃ (i : Int) (F2 : List Int), v49 = .int .i64 i ∧ Aside0 (0 ≤ i ∧ turn_l1 kq P b c F2 i = some r) ∧ Aside0 (kq ≤ k1) ∧ Aside0 (St W base g (.slice pA P.length pc) (.slice bA b.length bc) (.slice fA fn fc) F2 wr))
    case atStart => exact ⟨0, F, rfl, ⟨by omega, HQ.out⟩, ⟨Nat.le_refl _⟩, HS⟩
    case round =>
     clear hltb HS HQ
     obtain ⟨i, F2, rfl, HI, HK2, HS⟩ := hrel
     have i0 := HI.out.1
     cases gk with
     | zero => exact absurd HI.out.2 (by simp [turn_l1])
     | succ k2 =>
      have H := HI.out.2
      simp only [turn_l1] at H
      by_cases ci : i < (c.length : Int)
      ·rw [if_pos ci] at H
       have hltb := decide_eq_true ci
       obtain ⟨t, ht, H⟩ := Option.bind_eq_some_iff.1 H
       by_cases p0 : 0 ≤ (rd_T50 c i).f0
       ·rw [if_pos p0] at H
        by_cases p1 : (rd_T50 c i).f0 < (P.length : Int)
        ·rw [if_pos p1] at H
         have HT := Aside0.mk ht
         have HQ := Aside0.mk H
         clear ht H
         obtain ⟨ad, rfl, hx0, hx1, hx2⟩ := at_T50 (Kd.F_now (Kd.F_kept HCc.out HS.out.kept (fun _ hk => hk))) i i0 ci
         have s1 : (wr.alloc (.cells #[.int .i64 (rd_T50 c i).f0, .int .u64 (rd_T50 c i).f1, .int .i64 (rd_T50 c i).f2] 50)).cell? ⟨wr.heap.size, 0, none⟩ = some (.int .i64 (rd_T50 c i).f0) := by simp [go_sem]
         have s2 : wr.heap.size < (wr.alloc (.cells #[.int .i64 (rd_T50 c i).f0, .int .u64 (rd_T50 c i).f1, .int .i64 (rd_T50 c i).f2] 50)).heap.size := by simp
         have s3 := Aside0.mk (show _ ∧ _ ∧ _ from ⟨s1, s2, HS.out.below hbg (below_alloc (Below.refl _ _) (.cells #[.int .i64 (rd_T50 c i).f0, .int .u64 (rd_T50 c i).f1, .int .i64 (rd_T50 c i).f2] 50))⟩)
         obtain ⟨ad7, A7, c7, hA7, hr7, hl7, hF7, hk7⟩ := at_F7 HP.out (rd_T50 c i).f0 p0 p1
         subst hA7
         have HF7 := Aside0.mk hF7
         clear s1 s2 hF7
         go_wp2_with (first | (go_at_call 30; (with_reducible refine (bag_Least.calls k2 bA bc b (rd_T50 c i).f0 t _ ?_ hbc HT.out).mono ?_); (exact hold_C HBb.out s3.out); rintro e w3 ⟨rfl, hb⟩; have HN := Aside0.mk (hold_next hbg s3.out hb); clear hb))
         have s4 := HN.out.1
         have s5 := HN.out.2.1
         obtain ⟨hy0, hy1, hy2, hz1, hz2⟩ := HN.out.2.2.cell
         have s6 := cell_kept hr7 HN.out.2.2.kept (by rw [add_block]; exact hk7)
         have s7 := Aside0.mk HN.out.2.2
         clear HN s3 hx0 hx1 hx2 hr7
         generalize w3 = W3 at *
         go_region_held3 (fun w' => w'.cell? ⟨wr.heap.size, 0, none⟩ = some (.int .i64 (rd_T50 c i).f0) ∧ w'.cell? ⟨g, 0, none⟩ = some (.slice (some ad7) P.length pc) ∧ w'.cell? (ad7.add (rd_T50 c i).f0.toNat) = some (.slice A7 (rd_L7 P (rd_T50 c i).f0).length c7) ∧ St W base g (.slice (some ad7) P.length pc) (.slice bA b.length bc) (.slice fA fn fc) F2 w')
          (first | exact ⟨s4, hy0, s6, s7.out.below hbg (below_drew (Below.refl _ _))⟩ | fail) (fail)
         all_goals
          rename_i hH
          have HS4 := Aside0.mk hH.2.2.2
          clear hH s4 s5 hy0 hy1 hy2 hz1 hz2 s6 s7
          generalize W3.drew = W4 at *
          go_wp2
          go_loopg [66] k2 (fun kq v66 wr2 => ∃ (j : Int) (F3 : List Int), v66 = .int .i64 j ∧ Aside0 (0 ≤ j ∧ ((turn_l2 kq t (rd_L7 P (rd_T50 c i).f0) F3 j).bind fun F' => turn_l1 k2 P b c F' (i + 1)) = some r) ∧ Aside0 (kq ≤ k2) ∧ Aside0 (St W base g (.slice (some ad7) P.length pc) (.slice bA b.length bc) (.slice fA fn fc) F3 wr2))
          case atStart => exact ⟨0, F2, rfl, ⟨by omega, HQ.out⟩, ⟨Nat.le_refl _⟩, HS4⟩
          case round =>
          clear HQ HS4 HS HT HI
          obtain ⟨j, F3, rfl, HI, HK3, HS⟩ := hrel
          have j0 := HI.out.1
          cases gk with
          | zero => exact absurd HI.out.2 (by simp [turn_l2])
          | succ k3 =>
          have H := HI.out.2
          simp only [turn_l2] at H
          by_cases cj : j < ((rd_L7 P (rd_T50 c i).f0).length : Int)
          ·rw [if_pos cj] at H
           have hltj := decide_eq_true cj
           by_cases cf : j < (F3.length : Int)
           ·rw [if_pos cf] at H
            obtain ⟨fl, _, _⟩ := Kd.R_reads' HS.out.hF
            have jf : j < (fn : Int) := by omega
            obtain ⟨gf, cf2, ef, hbgf, _, _⟩ := Kd.R_form HS.out.hF (by omega)
            injection ef with ef1 ef2 ef3
            subst ef1 ef3
            cases hs : stamp_Plus.f t (rd (rd_L7 P (rd_T50 c i).f0) j) with
            | none => rw [hs] at H; cases H
            | some s =>
            rw [hs, Option.bind_some] at H
            have HSP := Aside0.mk hs
            clear hs
            obtain ⟨ji, hji⟩ : ∃ j_ : Int, mn (rd F3 j) s = j_ := ⟨_, rfl⟩
            rw [hji] at H
            have hji_ : (if s < rd F3 j then s else rd F3 j) = ji := hji
            have HQ := Aside0.mk H
            clear H hji
            have jr := (Kd.F_now HF7.out).2.1
            obtain ⟨ad8, e8, hx8⟩ := Kd.at_int (Kd.F_now (Kd.F_kept HF7.out HS.out.kept (fun _ hk => hk))) j j0 cj
            subst e8
            have p758 := eq_true j0
            have q758 := eq_true cj
            have q759 := eq_true jf
            go_wp2
            have HSD := Aside0.mk (HS.out.below hbg (below_drew (Below.refl _ _)))
            obtain ⟨hy0, hy1, hy2, hz1, hz2⟩ := HSD.out.cell
            obtain ⟨hx9, hf9⟩ := Kd.R_celln 0 HSD.out.hF j j0 jf
            refine start_ (n := 18) (S := fun w' => w'.cell? ⟨g, 2, none⟩ = some (.slice (some ⟨gf, 0, none⟩) fn fc) ∧ w'.cell? ⟨gf, j.toNat, none⟩ = some (.int .u64 (rd F3 j))) (ds := [17]) (mk_ 0 18) (by kernel_rfl) rfl rfl ⟨hy2, hx9⟩ (fun hHeld => ?_)
            refine with_tabW turn.tab15 turn.bits15 (fun HT_ HW_ => ?_)
            generalize wr.drew = w20 at HSD hx9 hf9 hHeld ⊢
            refine pv_ 0 71 (mk_ 1 17) HT_ ?_
            refine pv_ 1 72 (mk_ 2 16) HT_ ?_
            refine pv_ 2 73 (mk_ 3 15) HT_ ?_
            refine pv_ 4 75 (mb_ 18 23) HT_ ?_
            refine pv_ 5 76 (mb_ 18 55) HT_ ?_
            refine pv_ 6 77 (mb_ 18 119) HT_ ?_
            refine pv_ 7 78 (mb_ 18 247) HT_ ?_
            refine pv_ 9 80 (mb_ 18 759) HT_ ?_
            refine pv_ 12 83 (mb_ 18 4855) HT_ ?_
            refine pv_ 13 84 (mb_ 18 13047) HT_ ?_
            refine take_ (i := 3) (N := some 74) (v := ?_) (a' := ?_) (mb_ 18 13055) rfl rfl (take_ofW HT_.out HW_.out (by kernel_rfl)) (fun _ _ _ h => h) (Or.inl ⟨by rfl, ?_⟩) hHeld ?_ ?_
            rotate_left
            ·intro w' ⟨s0, s1⟩
             go_simp
             with_reducible rfl
            rotate_left
            ·simp only [Act.put, List.setIfInBounds_toArray, List.set_cons_zero, List.set_cons_succ, i64_w, i32_w]
             rfl
            refine take_ (i := 8) (N := some 79) (v := ?_) (a' := ?_) (mb_ 18 13311) rfl rfl (take_ofW HT_.out HW_.out (by kernel_rfl)) (fun _ _ _ h => h) (Or.inl ⟨by rfl, ?_⟩) hHeld ?_ ?_
            rotate_left
            ·intro w' ⟨s0, s1⟩
             go_simp
             with_reducible rfl
            rotate_left
            ·simp only [Act.put, List.setIfInBounds_toArray, List.set_cons_zero, List.set_cons_succ, i64_w, i32_w]
             rfl
            refine pv_ 10 81 (mb_ 18 14335) HT_ ?_
            refine take_ (i := 11) (N := some 82) (v := ?_) (a' := ?_) (mk_ 14 4) rfl rfl (take_ofW HT_.out HW_.out (by kernel_rfl)) (fun _ _ _ h => h) (Or.inl ⟨by rfl, ?_⟩) hHeld ?_ ?_
            rotate_left
            ·intro w' ⟨s0, s1⟩
             go_simp
             with_reducible rfl
            rotate_left
            ·simp only [Act.put, List.setIfInBounds_toArray, List.set_cons_zero, List.set_cons_succ, i64_w, i32_w]
             rfl
            refine one_ (i := 14) (N := some 85) (mk_ 15 3) rfl rfl (one_of HT_.out (by kernel_rfl)) (by decide) (fun K hK => ?_)
            refine goes_ Try.func70 (by kernel_rfl) rfl #[.int .u64 t, .int .u64 (rd (rd_L7 P (rd_T50 c i).f0) j)] (by rfl) rfl rfl (by (try simp only [List.map_toArray, List.map_cons, List.map_nil]); first | done | rfl | (simp only [List.length_drop, List.length_take]; rfl)) ?_
            with_reducible refine (stamp_Plus.calls t (rd (rd_L7 P (rd_T50 c i).f0) j) s _ HSP.out).mono ?_
            rintro e w' ⟨rfl, ⟨nd, rfl⟩⟩
            refine ⟨_, rfl, ?_⟩
            obtain ⟨hx19_0, hf19_0⟩ := Kd.R_celln 0 HSD.out.hF j j0 jf
            have HSP2 := Aside0.mk ((HSD.out.below hbg (pw_below_drewN (Below.refl _ _) nd)).put j ji)
            refine hK.out _ _ (hHeld) (fun hHeld => ?_)
            clear hK K
            refine norm_ (a' := ?_) ?_ ?_
            rotate_left
            ·show Act.put _ (some 85) _ = _
             simp only [Act.put, List.setIfInBounds_toArray, List.set_cons_zero, List.set_cons_succ, i64_w, i32_w]
             rfl
            refine pv_ 15 86 (mk_ 16 2) HT_ ?_
            refine pv_ 16 87 (mk_ 17 1) HT_ ?_
            refine last_ (i := 17) (N := none) (mk_ 18 0) rfl rfl (one_of HT_.out (by kernel_rfl)) (by decide) (fun K hK => ?_)
            refine skip_ (w1 := ?_) (by rfl) rfl ?_ ?_
            rotate_left
            ·go_simp
             rfl
            refine hK.out _ _ ?_
            clear hK K
            refine done_ (done_of HT_.out (by kernel_rfl)) ?_
            go_wp2
            go_roundg k3
            case measure => have := HK3.out; omega
            case rel => exact ⟨j + 1, F3.set j.toNat ji, by go_num, ⟨by omega, HQ.out⟩, ⟨by have := HK3.out; omega⟩, HSP2⟩
           ·rw [if_neg cf] at H; cases H
          ·rw [if_neg cj] at H
           have hltj := decide_eq_false cj
           have HQ := Aside0.mk (show turn_l1 k2 P b c F3 (i + 1) = some r from H)
           clear H
           go_wp2
           go_roundg k2
           case measure => have := HK2.out; omega
           case rel => exact ⟨i + 1, F3, by go_num, ⟨by omega, HQ.out⟩, ⟨by have := HK2.out; omega⟩, HS⟩
        ·rw [if_neg p1] at H; cases H
       ·rw [if_neg p0] at H; cases H
      ·rw [if_neg ci] at H
       obtain rfl := Option.some.inj H
       have hltb := decide_eq_false ci
       go_wp2
       ((try simp only [Exit.inBlock, Exit.then]); first | refine bodyPost_ret (results_none rfl _ _ _) rfl ?_ | refine bodyPost_end (results_none rfl _ _ _) rfl ?_)
       exact ⟨rfl, _, HS.out.hg, HS.out.hF, HS.out.kept, HS.out.bel⟩
/-! ### batch_wrong: function 48 -/
def batch_wrong.j0 : Nat → Bool → Int → Int → Int → Option (Int)
 | 0, _, _, _, _ => none
 | k + 1, x3, x108000, x108001, x108002 => if x3 = true then (some 2) else (if x108001 = 18446744073709551615 then (some 1) else ((batch_within.f x108002).bind fun t108 => (if t108 = true then (some 0) else (some 10))))
def batch_wrong.f (k : Nat) (a0_0 : Int) (a0_1 : Int) (a0_2 : Int) : Option (Int) := if a0_0 < 0 then (batch_wrong.j0 k true a0_0 a0_1 a0_2) else (batch_wrong.j0 k (decide (a0_0 ≥ 64)) a0_0 a0_1 a0_2)
set_option maxHeartbeats 8000000 in
set_option maxRecDepth 100000 in
theorem batch_wrong.calls (k : Nat) (a0_0 : Int) (a0_1 : Int) (a0_2 : Int) (r : Int) (w : World) (h : batch_wrong.f k a0_0 a0_1 a0_2 = some r) :
  Calls Try.prog 48 #[.agg #[.int .i64 a0_0, .int .u64 a0_1, .int .i64 a0_2]] w fun e w' => e = .returned (.int .i64 r) ∧ Below w.heap.size w w' := by
 (have hu50 := Try.underlying50); (have HB := Aside0.mk (Below.refl w.heap.size w)); (have H : (if a0_0 < 0 then (batch_wrong.j0 k true a0_0 a0_1 a0_2) else (batch_wrong.j0 k (decide (a0_0 ≥ 64)) a0_0 a0_1 a0_2)) = some r := h); clear h; (have HC2 := Aside0.mk H); clear H; go_enter Try.func48, Try.ntmps48; (go_upto_region 1 with (first | ((with_reducible refine gate_dst (N := 1) rfl ?_); refine box_event ?hg (N := 1) ?hd (cs := #[.int .i64 a0_0, .int .u64 a0_1, .int .i64 a0_2]) (t := 50) ?hr ?_; (case hd => rfl); (case hg => rfl); (case hr => first | (go_simp; done) | (go_simp; rfl)); intro gb107 hg w3 hbox hb; have n1_ := Aside0.mk (hbox); have n2_ := Aside0.mk (gsz hg (bn HB)); have n3_ := Aside0.mk (gsz hg (bn HB)); replace HB := bb HB hb; have BK107 := n1_; have GW107 := n2_; have GE107 := n3_; clear n1_ n2_ n3_; clear hb hbox hg))); (try simp only [Act.put, List.setIfInBounds_toArray, List.set_cons_zero, List.set_cons_succ]); (go_cut [3] (fun v3 wc => ∃ (kq : Nat) (x3_1 : Bool), v3 = .bool x3_1 ∧ Aside0 (batch_wrong.j0 kq x3_1 a0_0 a0_1 a0_2 = some r) ∧ Aside0 (kq ≤ k) ∧ Aside0 (wc.heap[gb107]? = some (.cells #[.int .i64 a0_0, .int .u64 a0_1, .int .i64 a0_2] 50 (0, 0))) ∧ Aside0 (Below w.heap.size w wc)))
 case first =>
  (have H := HC2.out); clear HC2; by_cases c4 : a0_0 < 0
  ·rw [if_pos c4] at H; (have c4b0 : decide (a0_0 < 0) = true := decide_eq_true c4); clear c4; (first | rw [c4b0] | (simp only [i64_w, i32_w]; rw [c4b0]) | skip); (have H' := Aside0.mk H); clear H; (have hcz5_0 : w3.cell? ⟨gb107, 0, none⟩ = some (.int .i64 a0_0) := (blk_cell BK107.out 0).trans rfl); (have hcz5_1 : w3.cell? ⟨gb107, 1, none⟩ = some (.int .u64 a0_1) := (blk_cell BK107.out 1).trans rfl); (have hcz5_2 : w3.cell? ⟨gb107, 2, none⟩ = some (.int .i64 a0_2) := (blk_cell BK107.out 2).trans rfl); (have hfz5_0 := blk_frozen BK107.out 0); (have hfz5_1 := blk_frozen BK107.out 1); (have hfz5_2 := blk_frozen BK107.out 2); go_wp2; go_meet
   case rel => exact ⟨_, (true), qr_, H', ⟨by first | omega | exact Nat.le_refl _⟩, ⟨bk BK107⟩, ⟨bn1 HB GE107⟩⟩
  ·rw [if_neg c4] at H; (have c4b0 : decide (a0_0 < 0) = false := decide_eq_false c4); clear c4; (first | rw [c4b0] | (simp only [i64_w, i32_w]; rw [c4b0]) | skip); (have H' := Aside0.mk H); clear H; (have hcz6_0 : w3.cell? ⟨gb107, 0, none⟩ = some (.int .i64 a0_0) := (blk_cell BK107.out 0).trans rfl); (have hcz6_1 : w3.cell? ⟨gb107, 1, none⟩ = some (.int .u64 a0_1) := (blk_cell BK107.out 1).trans rfl); (have hcz6_2 : w3.cell? ⟨gb107, 2, none⟩ = some (.int .i64 a0_2) := (blk_cell BK107.out 2).trans rfl); (have hfz6_0 := blk_frozen BK107.out 0); (have hfz6_1 := blk_frozen BK107.out 1); (have hfz6_2 := blk_frozen BK107.out 2); go_wp2; go_meet
   case rel => exact ⟨_, (decide (a0_0 ≥ 64)), qr_, H', ⟨by first | omega | exact Nat.le_refl _⟩, ⟨bk BK107⟩, ⟨bn1 HB GE107⟩⟩
 case rest =>
  clear HC2; obtain ⟨kq, x3_1, rfl, HA, HJ1, BK107, HB⟩ := hcut
  cases kq with
  | zero => exact absurd HA.out (by simp [batch_wrong.j0])
  | succ kj1 =>
   (have H := HA.out); clear HA; simp only [batch_wrong.j0] at H; by_cases c7 : x3_1 = true
   ·subst c7; (have H1 : (some 2) = some r := by rw [if_pos rfl] at H; exact H); clear H; (have H := H1); clear H1; obtain rfl := Option.some.inj H; go_wp2; go_ret; (exact ⟨by first | rfl | (simp [errW_none, errW_some] <;> rfl) | (simp [*, errW_none, errW_some] <;> rfl), bn1 HB GE107⟩)
   ·(replace c7 := Bool.eq_false_iff.mpr c7); subst c7; (have H1 : (if a0_1 = 18446744073709551615 then (some 1) else ((batch_within.f a0_2).bind fun t108 => (if t108 = true then (some 0) else (some 10)))) = some r := by rw [if_neg (show ¬ (false = true) by decide)] at H; exact H); clear H; (have H := H1); clear H1; by_cases c8 : a0_1 = 18446744073709551615
    ·rw [if_pos c8] at H; (have c8b0 : (a0_1 == 18446744073709551615) = true := beq_iff_eq.mpr c8); (have c8b1 : (a0_1 != 18446744073709551615) = false := bne_eq_false_iff_eq.mpr c8); clear c8; obtain rfl := Option.some.inj H; (have hcz9_0 : wc.cell? ⟨gb107, 0, none⟩ = some (.int .i64 a0_0) := (blk_cell BK107.out 0).trans rfl); (have hcz9_1 : wc.cell? ⟨gb107, 1, none⟩ = some (.int .u64 a0_1) := (blk_cell BK107.out 1).trans rfl); (have hcz9_2 : wc.cell? ⟨gb107, 2, none⟩ = some (.int .i64 a0_2) := (blk_cell BK107.out 2).trans rfl); (have hfz9_0 := blk_frozen BK107.out 0); (have hfz9_1 := blk_frozen BK107.out 1); (have hfz9_2 := blk_frozen BK107.out 2); go_wp2; go_ret; (exact ⟨by first | rfl | (simp [errW_none, errW_some] <;> rfl) | (simp [*, errW_none, errW_some] <;> rfl), bn1 HB GE107⟩)
    ·rw [if_neg c8] at H; (have c8b0 : (a0_1 == 18446744073709551615) = false := beq_eq_false_iff_ne.mpr c8); (have c8b1 : (a0_1 != 18446744073709551615) = true := bne_iff_ne.mpr c8); (replace H := Option.bind_eq_some_iff.mp H); obtain ⟨t108, A100, H⟩ := H; (replace H : (if t108 = true then (some 0) else (some 10)) = some r := H); (have A10 := Aside0.mk A100); clear A100; by_cases c11 : t108 = true
     ·subst c11; (have H1 : (some 0) = some r := by rw [if_pos rfl] at H; exact H); clear H; (have H := H1); clear H1; obtain rfl := Option.some.inj H; (have hcz12_0 : wc.cell? ⟨gb107, 0, none⟩ = some (.int .i64 a0_0) := (blk_cell BK107.out 0).trans rfl); (have hcz12_1 : wc.cell? ⟨gb107, 1, none⟩ = some (.int .u64 a0_1) := (blk_cell BK107.out 1).trans rfl); (have hcz12_2 : wc.cell? ⟨gb107, 2, none⟩ = some (.int .i64 a0_2) := (blk_cell BK107.out 2).trans rfl); (have hfz12_0 := blk_frozen BK107.out 0); (have hfz12_1 := blk_frozen BK107.out 1); (have hfz12_2 := blk_frozen BK107.out 2); (go_wp2_with (first | ((with_reducible refine gate_callee (f := 73) rfl ?_); refine gl (some 19) Try.func73 #[.int .i64 a0_2] ?_; (with_reducible refine (batch_within.calls a0_2 true _ A10.out).mono ?_); rintro e w' ⟨rfl, ⟨nd, rfl⟩⟩; refine ⟨_, rfl, ?_⟩))); go_ret; (exact ⟨by first | rfl | (simp [errW_none, errW_some] <;> rfl) | (simp [*, errW_none, errW_some] <;> rfl), bn1 HB GE107⟩)
     ·(replace c11 := Bool.eq_false_iff.mpr c11); subst c11; (have H1 : (some 10) = some r := by rw [if_neg (show ¬ (false = true) by decide)] at H; exact H); clear H; (have H := H1); clear H1; obtain rfl := Option.some.inj H; (have hcz13_0 : wc.cell? ⟨gb107, 0, none⟩ = some (.int .i64 a0_0) := (blk_cell BK107.out 0).trans rfl); (have hcz13_1 : wc.cell? ⟨gb107, 1, none⟩ = some (.int .u64 a0_1) := (blk_cell BK107.out 1).trans rfl); (have hcz13_2 : wc.cell? ⟨gb107, 2, none⟩ = some (.int .i64 a0_2) := (blk_cell BK107.out 2).trans rfl); (have hfz13_0 := blk_frozen BK107.out 0); (have hfz13_1 := blk_frozen BK107.out 1); (have hfz13_2 := blk_frozen BK107.out 2); (go_wp2_with (first | ((with_reducible refine gate_callee (f := 73) rfl ?_); refine gl (some 19) Try.func73 #[.int .i64 a0_2] ?_; (with_reducible refine (batch_within.calls a0_2 false _ A10.out).mono ?_); rintro e w' ⟨rfl, ⟨nd, rfl⟩⟩; refine ⟨_, rfl, ?_⟩))); go_ret; (exact ⟨by first | rfl | (simp [errW_none, errW_some] <;> rfl) | (simp [*, errW_none, errW_some] <;> rfl), bn1 HB GE107⟩)
end Go.Proofs.Ytgeldmhgbnamcaa.P
end
