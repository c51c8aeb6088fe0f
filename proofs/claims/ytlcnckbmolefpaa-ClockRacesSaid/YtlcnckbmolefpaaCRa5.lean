/- Walks and laws of several statements of this seat, joined into one text; no condition. -/
import Derived.Test.YtlcnckbmolefpaaProg
import Derived.Below
import Derived.Deep.Draws
import Derived.Deep.AppendLies
import Derived.Maps.AppendAt
import Derived.OwnWalk
import Derived.Laws.BytesArg
import Derived.Laws.MakeOwn
import Derived.Laws.OwnMore
import Derived.Deep.OwnRows
import Derived.Tactics
import Derived.Lib.ConvBytes
import Derived.Laws.Slices
import Derived.WalkKit
import Derived.KernelRfl
import Derived.RowKit3
import Derived.Deep.LoopGhost
import Derived.Deep.QuietTactic
import Derived.BigQuiet
import Derived.WideLaws
import Derived.Deep.DeepCutAuto
import Derived.Deep.CutBlock
import Derived.Deep.RegionHeld3
import Derived.Laws.Rows
import Derived.Lib.AppendStr
import Derived.ArgAppend
import Derived.Laws.IdiomCopy
import Derived.OrdersHeld
import Derived.Laws.BitsLemmas
import Derived.RowKit
import Derived.Laws.StructEq
import Derived.Maps.RangeWalk
import Derived.Maps.OwnRows
import Derived.Maps.Views
import Derived.Maps.OwnSet
import Derived.IntWalk
import Derived.Shelf.SlMaps.Clone
import Derived.Deep.RegionHeldLaw
import Derived.Maps.GroupsBeside
import Derived.Deep.Slices
import Derived.SizedLaws
import Derived.OpenShut
import Derived.Lib.SmallJoins
import Derived.Test.YtlcnckbmolefpaaCRa0
import Derived.Test.YtlcnckbmolefpaaCRa1
import Derived.Test.YtlcnckbmolefpaaCRa4
import Derived.Test.YtlcnckbmolefpaaCRa2
import Derived.Test.YtlcnckbmolefpaaCRa3
section
-- Printed by the session's own turn of the print (wip/tools/print2.sh): some callees are proved by hand.
namespace Go.Proofs.Ytlcnckbmolefpaa.P
open Go.RowKit Go.Proofs.YtlcnckbmolefpaaW.PrintWords Go.Proofs.YtlcnckbmolefpaaW.PrintLast Go.Proofs.YtlcnckbmolefpaaW.PrintMore
attribute [local go_sem] max2_int min2_int max_two min_two max_three min_three max_four min_four   -- for this text's walks alone
set_option linter.unusedVariables false
set_option linter.unusedSimpArgs false
/-! ### marchlandref09_Ahead: function 25 -/
mutual
def marchlandref09_Ahead.l0 : Nat → List (S127) → List (List Bool) → Int → Option ((List (List Bool)))
  | 0, _, _, _ => none
  | k + 1, x0, x3, x4 => if x4 < (x0.length : Int) then (if 0 ≤ (x0.length : Int) then (if ((x0.length : Int) : Int).toNat ≤ 281474976710656 then (marchlandref09_Ahead.l1 k x0 x3 x4 (List.replicate ((x0.length : Int) : Int).toNat false) (wrap64 (x4 - 1))) else (none)) else (none)) else (some x3)
def marchlandref09_Ahead.l1 : Nat → List (S127) → List (List Bool) → Int → List Bool → Int → Option ((List (List Bool)))
  | 0, _, _, _, _, _ => none
  | k + 1, x0, x3, x4, x5, x6 => if x6 ≥ 0 then (if 0 ≤ x6 then (if x6 < (x5.length : Int) then (if rdOf false x5 x6 = true then (marchlandref09_Ahead.j2 k x0 x3 x4 x5 x6 true) else ((marchlandref09_step.f k x0 x6 x4).bind fun t172 => (marchlandref09_Ahead.j2 k x0 x3 x4 x5 x6 (!t172)))) else (none)) else (none)) else (if x3.length < 5864062014805 then (marchlandref09_Ahead.l0 k x0 (x3 ++ [x5]) (wrap64 (x4 + 1))) else (none))
def marchlandref09_Ahead.j2 : Nat → List (S127) → List (List Bool) → Int → List Bool → Int → Bool → Option ((List (List Bool)))
  | 0, _, _, _, _, _, _ => none
  | k + 1, x0, x3, x4, x5, x6, x33 => if x33 = true then (marchlandref09_Ahead.l1 k x0 x3 x4 x5 (wrap64 (x6 - 1))) else (if 0 ≤ x6 then (if x6 < (x5.length : Int) then (marchlandref09_Ahead.l2 k x0 x3 x4 (x5.set (x6 : Int).toNat true) x6 0) else (none)) else (none))
def marchlandref09_Ahead.l2 : Nat → List (S127) → List (List Bool) → Int → List Bool → Int → Int → Option ((List (List Bool)))
  | 0, _, _, _, _, _, _ => none
  | k + 1, x0, x3, x4, x5, x6, x7 => if x7 < x6 then (if 0 ≤ x7 then (if x7 < (x5.length : Int) then (if rdOf false x5 x7 = true then (marchlandref09_Ahead.l2 k x0 x3 x4 (x5.set (x7 : Int).toNat true) x6 (wrap64 (x7 + 1))) else (if 0 ≤ x6 then (if x6 < (x3.length : Int) then (if x7 < ((rd_L5 x3 x6).length : Int) then (marchlandref09_Ahead.l2 k x0 x3 x4 (x5.set (x7 : Int).toNat (rdOf false (rd_L5 x3 x6) x7)) x6 (wrap64 (x7 + 1))) else (none)) else (none)) else (none))) else (none)) else (none)) else (marchlandref09_Ahead.l1 k x0 x3 x4 x5 (wrap64 (x6 - 1)))
end
def marchlandref09_Ahead.f (k : Nat) (l0 : List (S127)) : Option ((List (List Bool))) := marchlandref09_Ahead.l0 k l0 ([] : List (List Bool)) 0
theorem marchlandref09_Ahead.mono_l : ∀ k, (∀ y0 y1 y2, LeO (marchlandref09_Ahead.l0 k y0 y1 y2) (marchlandref09_Ahead.l0 (k + 1) y0 y1 y2)) ∧ (∀ y0 y1 y2 y3 y4, LeO (marchlandref09_Ahead.l1 k y0 y1 y2 y3 y4) (marchlandref09_Ahead.l1 (k + 1) y0 y1 y2 y3 y4)) ∧ (∀ y0 y1 y2 y3 y4 y5, LeO (marchlandref09_Ahead.j2 k y0 y1 y2 y3 y4 y5) (marchlandref09_Ahead.j2 (k + 1) y0 y1 y2 y3 y4 y5)) ∧ (∀ y0 y1 y2 y3 y4 y5, LeO (marchlandref09_Ahead.l2 k y0 y1 y2 y3 y4 y5) (marchlandref09_Ahead.l2 (k + 1) y0 y1 y2 y3 y4 y5))
  | 0 => ⟨fun _ _ _ r h => by simp [marchlandref09_Ahead.l0] at h, fun _ _ _ _ _ r h => by simp [marchlandref09_Ahead.l1] at h, fun _ _ _ _ _ _ r h => by simp [marchlandref09_Ahead.j2] at h, fun _ _ _ _ _ _ r h => by simp [marchlandref09_Ahead.l2] at h⟩
  | k + 1 => by
    obtain ⟨ih0, ih1, ih2, ih3⟩ := marchlandref09_Ahead.mono_l k
    refine ⟨?_, ?_, ?_, ?_⟩
    · intro y0 y1 y2
      unfold marchlandref09_Ahead.l0
      repeat' first
      | (with_reducible exact ih0 _ _ _)
      | (with_reducible exact ih1 _ _ _ _ _)
      | (with_reducible exact ih2 _ _ _ _ _ _)
      | (with_reducible exact ih3 _ _ _ _ _ _)
      | (with_reducible exact marchlandref09_step.mono _ _ _ _)
      | (with_reducible exact LeO.refl _)
      | (with_reducible exact LeO.none _)
      | (with_reducible refine LeO.ite ?_ ?_)
      | (with_reducible refine LeO.bind ?_ (fun _ => ?_))
      | exact ih0 _ _ _
      | exact ih1 _ _ _ _ _
      | exact ih2 _ _ _ _ _ _
      | exact ih3 _ _ _ _ _ _
      | exact marchlandref09_step.mono _ _ _ _
      | exact LeO.none _
      | refine LeO.ite ?_ ?_
      | refine LeO.bind ?_ (fun _ => ?_)
    · intro y0 y1 y2 y3 y4
      unfold marchlandref09_Ahead.l1
      repeat' first
      | (with_reducible exact ih0 _ _ _)
      | (with_reducible exact ih1 _ _ _ _ _)
      | (with_reducible exact ih2 _ _ _ _ _ _)
      | (with_reducible exact ih3 _ _ _ _ _ _)
      | (with_reducible exact marchlandref09_step.mono _ _ _ _)
      | (with_reducible exact LeO.refl _)
      | (with_reducible exact LeO.none _)
      | (with_reducible refine LeO.ite ?_ ?_)
      | (with_reducible refine LeO.bind ?_ (fun _ => ?_))
      | exact ih0 _ _ _
      | exact ih1 _ _ _ _ _
      | exact ih2 _ _ _ _ _ _
      | exact ih3 _ _ _ _ _ _
      | exact marchlandref09_step.mono _ _ _ _
      | exact LeO.none _
      | refine LeO.ite ?_ ?_
      | refine LeO.bind ?_ (fun _ => ?_)
    · intro y0 y1 y2 y3 y4 y5
      unfold marchlandref09_Ahead.j2
      repeat' first
      | (with_reducible exact ih0 _ _ _)
      | (with_reducible exact ih1 _ _ _ _ _)
      | (with_reducible exact ih2 _ _ _ _ _ _)
      | (with_reducible exact ih3 _ _ _ _ _ _)
      | (with_reducible exact marchlandref09_step.mono _ _ _ _)
      | (with_reducible exact LeO.refl _)
      | (with_reducible exact LeO.none _)
      | (with_reducible refine LeO.ite ?_ ?_)
      | (with_reducible refine LeO.bind ?_ (fun _ => ?_))
      | exact ih0 _ _ _
      | exact ih1 _ _ _ _ _
      | exact ih2 _ _ _ _ _ _
      | exact ih3 _ _ _ _ _ _
      | exact marchlandref09_step.mono _ _ _ _
      | exact LeO.none _
      | refine LeO.ite ?_ ?_
      | refine LeO.bind ?_ (fun _ => ?_)
    · intro y0 y1 y2 y3 y4 y5
      unfold marchlandref09_Ahead.l2
      repeat' first
      | (with_reducible exact ih0 _ _ _)
      | (with_reducible exact ih1 _ _ _ _ _)
      | (with_reducible exact ih2 _ _ _ _ _ _)
      | (with_reducible exact ih3 _ _ _ _ _ _)
      | (with_reducible exact marchlandref09_step.mono _ _ _ _)
      | (with_reducible exact LeO.refl _)
      | (with_reducible exact LeO.none _)
      | (with_reducible refine LeO.ite ?_ ?_)
      | (with_reducible refine LeO.bind ?_ (fun _ => ?_))
      | exact ih0 _ _ _
      | exact ih1 _ _ _ _ _
      | exact ih2 _ _ _ _ _ _
      | exact ih3 _ _ _ _ _ _
      | exact marchlandref09_step.mono _ _ _ _
      | exact LeO.none _
      | refine LeO.ite ?_ ?_
      | refine LeO.bind ?_ (fun _ => ?_)
theorem marchlandref09_Ahead.mono : ∀ a0 k, LeO (marchlandref09_Ahead.f k a0) (marchlandref09_Ahead.f (k + 1) a0) := by
  intro a0 k
  obtain ⟨ih0, ih1, ih2, ih3⟩ := marchlandref09_Ahead.mono_l k
  unfold marchlandref09_Ahead.f
  repeat' first
      | (with_reducible exact ih0 _ _ _)
      | (with_reducible exact ih1 _ _ _ _ _)
      | (with_reducible exact ih2 _ _ _ _ _ _)
      | (with_reducible exact ih3 _ _ _ _ _ _)
      | (with_reducible exact marchlandref09_step.mono _ _ _ _)
      | (with_reducible exact LeO.refl _)
      | (with_reducible exact LeO.none _)
      | (with_reducible refine LeO.ite ?_ ?_)
      | (with_reducible refine LeO.bind ?_ (fun _ => ?_))
      | exact ih0 _ _ _
      | exact ih1 _ _ _ _ _
      | exact ih2 _ _ _ _ _ _
      | exact ih3 _ _ _ _ _ _
      | exact marchlandref09_step.mono _ _ _ _
      | exact LeO.none _
      | refine LeO.ite ?_ ?_
      | refine LeO.bind ?_ (fun _ => ?_)
set_option maxHeartbeats 8000000 in
set_option maxRecDepth 100000 in
theorem marchlandref09_Ahead.calls (k : Nat) (A0 : Option Addr) (c0 : Nat) (l0 : List (S127)) (r : List (List Bool)) (w : World) (hr0 : Kd.C k127 w A0 l0.length l0) (hc0 : l0.length ≤ c0) (h : marchlandref09_Ahead.f k l0 = some r) :
    Calls Try.prog 25 #[.slice A0 l0.length c0] w fun e w' => ∃ v0_ : Value, e = .returned (v0_) ∧ Kd.S (Kd.slice 4 Kd.bool) 38 w' w.heap.size (fun _ => True) v0_ r ∧ Below w.heap.size w w' := by
  have HR0 := Aside0.mk hr0
  have HC0 := Aside0.mk hc0
  clear hr0 hc0
  have HB := Aside0.mk (Below.refl w.heap.size w)
  have H : (marchlandref09_Ahead.l0 k l0 ([] : List (List Bool)) 0) = some r := h
  clear h
  have H' := Aside0.mk H
  clear H
  go_enter Try.func25, Try.ntmps25
  go_wp2
  go_loopg [3, 4] k (fun kq v3 v4 w' => ∃ (x3_1 : List (List Bool)) (x4_1 : Int), v4 = .int .i64 x4_1 ∧ Aside0 (marchlandref09_Ahead.l0 kq l0 x3_1 x4_1 = some r) ∧ Aside0 (kq ≤ k) ∧ Aside0 (Kd.S (Kd.slice 4 Kd.bool) 38 w' w.heap.size (fun _ => True) v3 x3_1) ∧ Aside0 (Below w.heap.size w w'))
  case atStart => exact ⟨(([] : List (List Bool))), (0), (by first | rfl | (simp; done) | (simp [*]; done)), H', ⟨Nat.le_refl _⟩, ⟨by first | exact Kd.S_nil _ _ _ _ _ | exact Kd.N_nil _ _ _ _ _ | exact Kd.V_nil _ _ _ _ _ | exact Kd.Q_nil _ _ _ _ _ | exact Kd.R_nil _ _ _ _ _⟩, ⟨by repeat (first | (with_reducible first | exact HB.out | apply below_alloc | apply pw_below_drewN | apply below_drew1) | exact HB.out)⟩⟩
  case round =>
    clear H'
    obtain ⟨x3_1, x4_1, rfl, HA, HK1, HO_3, HB⟩ := hrel
    cases gk with
    | zero => exact absurd HA.out (by simp [marchlandref09_Ahead.l0])
    | succ k1 =>
      have H := HA.out
      clear HA
      simp only [marchlandref09_Ahead.l0] at H
      by_cases c2 : x4_1 < (l0.length : Int)
      · rw [if_pos c2] at H
        have c2b0 : decide (x4_1 < (l0.length : Int)) = true := decide_eq_true c2
        clear c2
        by_cases c3 : 0 ≤ (l0.length : Int)
        · rw [if_pos c3] at H
          have c3b0 := eq_true c3
          have c3b1 : decide (0 ≤ (l0.length : Int)) = true := decide_eq_true c3
          clear c3
          by_cases c4 : ((l0.length : Int) : Int).toNat ≤ 281474976710656
          · rw [if_pos c4] at H
            have c4b0 := eq_true c4
            have c4b1 : decide (((l0.length : Int) : Int).toNat ≤ 281474976710656) = true := decide_eq_true c4
            clear c4
            obtain ⟨y165, hy165⟩ : ∃ y_ : List Bool, y_ = (List.replicate ((l0.length : Int) : Int).toNat false) := ⟨_, rfl⟩
            replace H : (marchlandref09_Ahead.l1 k1 l0 x3_1 x4_1 y165 (wrap64 (x4_1 - 1))) = some r := by first | (rw [hy165]; with_reducible exact H) | (have H2_ := (Option.bind_some _ _).symm.trans H; rw [hy165]; with_reducible exact H2_) | (have H2_ := (Option.bind_some _ _).symm.trans H; with_reducible exact H2_) | with_reducible exact H | (rw [hy165]; exact H) | exact H
            have Ny165 := Aside0.mk hy165
            clear hy165
            have H' := Aside0.mk H
            clear H
            go_wp2_with (first | ((with_reducible refine gate_dst (N := 16) rfl ?_); refine Kd.R_make Kd.bool _ 4 rfl (N := 16) rfl 38 _ _ rfl (l0.length : Int) rfl rfl Try.underlying38 (.bool false) 1 info4 rfl (by decide) (by omega) false (ok := fun _ => True) (okp := fun _ => True) rfl (fun _ hk => hk) trivial (of_decide_eq_true (by first | (with_reducible assumption) | assumption)) (Nat.le_trans (Nat.mul_le_mul_right _ (of_decide_eq_true (by first | (with_reducible assumption) | assumption) : (l0.length : Int).toNat ≤ 281474976710656)) (by omega)) (Below.refl _ _) (Nat.le_refl _) ?_; intro v166 w5 ho6 hb hg_ hnew_; clear hg_ hnew_; (first | rw [← Ny165.out] at ho6 | (simp only [Int.reduceToNat] at ho6; rw [← Ny165.out] at ho6)); have n0_ := Aside0.mk (Kd.S_elder' (by (with_reducible repeat (first | apply Kd.S_alloc | apply Kd.S_drewN | apply Kd.S_drew)); exact HO_3.out) (Kd.R_base ho6) hb); have n1_ := Aside0.mk (Kd.R_lower ho6 (below_size (by repeat (first | (with_reducible first | exact HB.out | apply below_alloc | apply pw_below_drewN | apply below_drew1) | exact HB.out)))); have n2_ := Aside0.mk (below_step (by repeat (first | (with_reducible first | exact HB.out | apply below_alloc | apply pw_below_drewN | apply below_drew1) | exact HB.out)) hb); clear HO_3; clear HB; have HO_3 := n0_; have HO167 := n1_; have HB := n2_; clear n0_ n1_ n2_; clear hb ho6))
            go_loopg [6] k1 (fun kq v6 w' => ∃ (x5_2 : List Bool) (x6_2 : Int), v6 = .int .i64 x6_2 ∧ Aside0 (marchlandref09_Ahead.l1 kq l0 x3_1 x4_1 x5_2 x6_2 = some r) ∧ Aside0 (kq ≤ k1) ∧ Aside0 (Kd.S (Kd.slice 4 Kd.bool) 38 w' w.heap.size (fun k_ => some k_ ≠ (v166 : Value).ownBlock) u3 x3_1) ∧ Aside0 (Kd.R Kd.bool 4 w' w.heap.size (fun _ => True) v166 x5_2) ∧ Aside0 (Below w.heap.size w w'))
            case atStart => exact ⟨(y165), (wrap64 (x4_1 - 1)), (by first | rfl | (simp; done) | (simp [*]; done)), H', ⟨Nat.le_refl _⟩, ⟨by (with_reducible repeat (first | apply Kd.S_alloc | apply Kd.S_drewN | apply Kd.S_drew)); exact Kd.S_mono HO_3.out (fun _ hk => hk.2)⟩, ⟨by (with_reducible repeat (first | apply Kd.R_alloc | apply Kd.R_drewN | apply Kd.R_drew)); exact HO167.out⟩, ⟨by repeat (first | (with_reducible first | exact HB.out | apply below_alloc | apply pw_below_drewN | apply below_drew1) | exact HB.out)⟩⟩
            case round =>
              clear H'
              try clear c2
              try clear c2b0
              try clear p2
              try clear c3
              try clear c3b0
              try clear c3b1
              try clear c4
              try clear c4b0
              try clear c4b1
              try clear p6
              obtain ⟨x5_2, x6_2, rfl, HA, HK2, HO_3, HO_5, HB⟩ := hrel
              cases gk with
              | zero => exact absurd HA.out (by simp [marchlandref09_Ahead.l1])
              | succ k2 =>
                have H := HA.out
                clear HA
                simp only [marchlandref09_Ahead.l1] at H
                by_cases c7 : x6_2 ≥ 0
                · rw [if_pos c7] at H
                  have c7b0 : decide (0 ≤ x6_2) = true := decide_eq_true c7
                  clear c7
                  have HC8 := Aside0.mk H
                  clear H
                  go_upto_region 9 with (fail)
                  go_cut [33] (fun v33 wc => ∃ (kq : Nat) (x33_7 : Bool), v33 = .bool x33_7 ∧ Aside0 (marchlandref09_Ahead.j2 kq l0 x3_1 x4_1 x5_2 x6_2 x33_7 = some r) ∧ Aside0 (kq ≤ k2) ∧ Aside0 (Kd.S (Kd.slice 4 Kd.bool) 38 wc w.heap.size (fun k_ => some k_ ≠ (v166 : Value).ownBlock) u3 x3_1) ∧ Aside0 (Kd.R Kd.bool 4 wc w.heap.size (fun _ => True) v166 x5_2) ∧ Aside0 (Below w.heap.size w wc))
                  case first =>
                    have H := HC8.out
                    clear HC8
                    by_cases c9 : 0 ≤ x6_2
                    · rw [if_pos c9] at H
                      have c9b0 : decide (0 ≤ x6_2) = true := decide_eq_true c9
                      clear c9
                      (first | rw [c9b0] | (simp only [i64_w, i32_w]; rw [c9b0]) | skip)
                      by_cases c10 : x6_2 < (x5_2.length : Int)
                      · rw [if_pos c10] at H
                        have c10b0 : decide (x6_2 < (x5_2.length : Int)) = true := decide_eq_true c10
                        clear c10
                        obtain ⟨bq11, hbq11⟩ : ∃ b_ : Bool, b_ = (rdOf false x5_2 x6_2) := ⟨_, rfl⟩
                        replace H : (if bq11 = true then (marchlandref09_Ahead.j2 k2 l0 x3_1 x4_1 x5_2 x6_2 true) else ((marchlandref09_step.f k2 l0 x6_2 x4_1).bind fun t172 => (marchlandref09_Ahead.j2 k2 l0 x3_1 x4_1 x5_2 x6_2 (!t172)))) = some r := by rw [← hbq11] at H; exact H
                        have Nbq11 := Aside0.mk hbq11
                        clear hbq11
                        by_cases c12 : bq11 = true
                        · subst c12
                          have H1 : (marchlandref09_Ahead.j2 k2 l0 x3_1 x4_1 x5_2 x6_2 true) = some r := by rw [if_pos rfl] at H; exact H
                          clear H
                          have H := H1
                          clear H1
                          have H' := Aside0.mk H
                          clear H
                          obtain ⟨Ao13, co13, eo13⟩ := Kd.R_slice HO_5.out
                          subst eo13
                          have p171 : 0 ≤ (x6_2 : Int) := of_decide_eq_true (by first | (with_reducible assumption) | assumption)
                          have q171 : x6_2 < (x5_2.length : Int) := of_decide_eq_true (by first | (with_reducible assumption) | assumption)
                          obtain ⟨ad171, e171, hx171_0⟩ := Kd.at_bool (Kd.R_reads' HO_5.out).2.2 x6_2 p171 q171
                          (try rw [← Nbq11.out] at hx171_0)
                          cases e171
                          replace p171 := eq_true p171
                          replace q171 := eq_true q171
                          go_wp2
                          go_meet
                          case rel => exact ⟨_, (true), (by first | rfl | (simp; done) | (simp [*]; done)), H', ⟨by have := HK1.out; have := HK2.out; first | omega | exact Nat.le_refl _⟩, ⟨by (with_reducible repeat (first | apply Kd.S_alloc | apply Kd.S_drewN | apply Kd.S_drew)); exact HO_3.out⟩, ⟨by (with_reducible repeat (first | apply Kd.R_alloc | apply Kd.R_drewN | apply Kd.R_drew)); exact HO_5.out⟩, ⟨by repeat (first | (with_reducible first | exact HB.out | apply below_alloc | apply pw_below_drewN | apply below_drew1) | exact HB.out)⟩⟩
                        · replace c12 := Bool.eq_false_iff.mpr c12
                          subst c12
                          have H1 : ((marchlandref09_step.f k2 l0 x6_2 x4_1).bind fun t172 => (marchlandref09_Ahead.j2 k2 l0 x3_1 x4_1 x5_2 x6_2 (!t172))) = some r := by rw [if_neg (show ¬ (false = true) by decide)] at H; exact H
                          clear H
                          have H := H1
                          clear H1
                          replace H := Option.bind_eq_some_iff.mp H
                          obtain ⟨t172, A140, H⟩ := H
                          replace H : (marchlandref09_Ahead.j2 k2 l0 x3_1 x4_1 x5_2 x6_2 (!t172)) = some r := H
                          have A14 := Aside0.mk A140
                          clear A140
                          have H' := Aside0.mk H
                          clear H
                          obtain ⟨Ao15, co15, eo15⟩ := Kd.R_slice HO_5.out
                          subst eo15
                          have p171 : 0 ≤ (x6_2 : Int) := of_decide_eq_true (by first | (with_reducible assumption) | assumption)
                          have q171 : x6_2 < (x5_2.length : Int) := of_decide_eq_true (by first | (with_reducible assumption) | assumption)
                          obtain ⟨ad171, e171, hx171_0⟩ := Kd.at_bool (Kd.R_reads' HO_5.out).2.2 x6_2 p171 q171
                          (try rw [← Nbq11.out] at hx171_0)
                          cases e171
                          replace p171 := eq_true p171
                          replace q171 := eq_true q171
                          go_wp2_with (first | (go_at_call 79; (with_reducible refine (marchlandref09_step.calls k2 _ _ l0 x6_2 x4_1 t172 _ ?side1 ?side2 A14.out).mono ?_); (case side1 => repeat (first | exact (Kd.C_below HR0.out HB.out) | (with_reducible refine Kd.C_alloc ?_ _) | (with_reducible refine Kd.C_drewN ?_ _) | (with_reducible refine Kd.C_drew ?_))); (case side2 => exact HC0.out); rintro e w16 ⟨rfl, hb⟩; have n0_ := Aside0.mk (Kd.S_below (by (with_reducible repeat (first | apply Kd.S_alloc | apply Kd.S_drewN | apply Kd.S_drew)); exact HO_3.out) hb); have n1_ := Aside0.mk (Kd.R_below (by (with_reducible repeat (first | apply Kd.R_alloc | apply Kd.R_drewN | apply Kd.R_drew)); exact HO_5.out) hb); have n2_ := Aside0.mk (below_step (by repeat (first | (with_reducible first | exact HB.out | apply below_alloc | apply pw_below_drewN | apply below_drew1) | exact HB.out)) hb); clear HO_3; clear HO_5; clear HB; have HO_3 := n0_; have HO_5 := n1_; have HB := n2_; clear n0_ n1_ n2_; (try clear hb); (try clear hb2); (try clear hk); (try clear hi)))
                          go_meet
                          case rel => exact ⟨_, (!t172), (by first | rfl | (simp; done) | (simp [*]; done)), H', ⟨by have := HK1.out; have := HK2.out; first | omega | exact Nat.le_refl _⟩, ⟨by (with_reducible repeat (first | apply Kd.S_alloc | apply Kd.S_drewN | apply Kd.S_drew)); exact HO_3.out⟩, ⟨by (with_reducible repeat (first | apply Kd.R_alloc | apply Kd.R_drewN | apply Kd.R_drew)); exact HO_5.out⟩, ⟨by repeat (first | (with_reducible first | exact HB.out | apply below_alloc | apply pw_below_drewN | apply below_drew1) | exact HB.out)⟩⟩
                      · rw [if_neg c10] at H
                        exact absurd H (by simp)
                    · rw [if_neg c9] at H
                      exact absurd H (by simp)
                  case rest =>
                    clear HC8
                    try clear c1
                    try clear p1
                    try clear q1
                    try clear hx1
                    try clear c2
                    try clear c2b0
                    try clear p2
                    try clear c3
                    try clear c3b0
                    try clear c3b1
                    try clear c4
                    try clear c4b0
                    try clear c4b1
                    try clear p6
                    try clear c7
                    try clear c7b0
                    try clear c9
                    try clear c9b0
                    try clear c10
                    try clear c10b0
                    try clear q11
                    try clear c12
                    try clear hx171_0
                    try clear p171
                    try clear p2
                    try clear p6
                    try clear q171
                    obtain ⟨kq, x33_7, rfl, HA, HJ7, HO_3, HO_5, HB⟩ := hcut
                    cases kq with
                    | zero => exact absurd HA.out (by simp [marchlandref09_Ahead.j2])
                    | succ kj7 =>
                      have H := HA.out
                      clear HA
                      simp only [marchlandref09_Ahead.j2] at H
                      by_cases c17 : x33_7 = true
                      · subst c17
                        have H1 : (marchlandref09_Ahead.l1 kj7 l0 x3_1 x4_1 x5_2 (wrap64 (x6_2 - 1))) = some r := by rw [if_pos rfl] at H; exact H
                        clear H
                        have H := H1
                        clear H1
                        have H' := Aside0.mk H
                        clear H
                        go_wp2
                        go_roundg kj7
                        case measure => have := HK1.out; have := HK2.out; have := HJ7.out; omega
                        case rel => exact ⟨(x5_2), (wrap64 (x6_2 - 1)), (by first | rfl | (simp; done) | (simp [*]; done)), H', ⟨by have := HK1.out; have := HK2.out; have := HJ7.out; omega⟩, ⟨by (with_reducible repeat (first | apply Kd.S_alloc | apply Kd.S_drewN | apply Kd.S_drew)); exact HO_3.out⟩, ⟨by (with_reducible repeat (first | apply Kd.R_alloc | apply Kd.R_drewN | apply Kd.R_drew)); exact HO_5.out⟩, ⟨by repeat (first | (with_reducible first | exact HB.out | apply below_alloc | apply pw_below_drewN | apply below_drew1) | exact HB.out)⟩⟩
                      · replace c17 := Bool.eq_false_iff.mpr c17
                        subst c17
                        have H1 : (if 0 ≤ x6_2 then (if x6_2 < (x5_2.length : Int) then (marchlandref09_Ahead.l2 kj7 l0 x3_1 x4_1 (x5_2.set (x6_2 : Int).toNat true) x6_2 0) else (none)) else (none)) = some r := by rw [if_neg (show ¬ (false = true) by decide)] at H; exact H
                        clear H
                        have H := H1
                        clear H1
                        by_cases c18 : 0 ≤ x6_2
                        · rw [if_pos c18] at H
                          have c18b0 : decide (0 ≤ x6_2) = true := decide_eq_true c18
                          clear c18
                          by_cases c19 : x6_2 < (x5_2.length : Int)
                          · rw [if_pos c19] at H
                            have c19b0 : decide (x6_2 < (x5_2.length : Int)) = true := decide_eq_true c19
                            clear c19
                            obtain ⟨y173, hy173⟩ : ∃ y_ : List Bool, y_ = (x5_2.set (x6_2 : Int).toNat true) := ⟨_, rfl⟩
                            replace H : (marchlandref09_Ahead.l2 kj7 l0 x3_1 x4_1 y173 x6_2 0) = some r := by first | (rw [hy173]; with_reducible exact H) | (have H2_ := (Option.bind_some _ _).symm.trans H; rw [hy173]; with_reducible exact H2_) | (have H2_ := (Option.bind_some _ _).symm.trans H; with_reducible exact H2_) | with_reducible exact H | (rw [hy173]; exact H) | exact H
                            have Ny173 := Aside0.mk hy173
                            clear hy173
                            have H' := Aside0.mk H
                            clear H
                            have p20 : 0 ≤ (x6_2 : Int) := of_decide_eq_true (by first | (with_reducible assumption) | assumption)
                            have q20 : (x6_2 : Int) < ((x5_2.length : Int) : Int) := of_decide_eq_true (by first | (with_reducible assumption) | assumption)
                            obtain ⟨go20, co20, eo20, gb20, gl20, cl20, HG20⟩ := Kd.R_form HO_5.out (by omega)
                            (first | cases eo20 | (injection eo20 with ea_ en_ ec_; (first | subst ea_ | (injection ea_ with ea_; subst ea_)); subst ec_; clear en_))
                            have GB20 := Aside0.mk gb20
                            have GG20 := Aside0.mk HG20
                            clear gb20 gl20 HG20
                            obtain ⟨hx20_0, hf20_0⟩ := Kd.R_celln false HO_5.out (x6_2 : Int) p20 q20
                            replace p20 := eq_true p20
                            replace q20 := eq_true q20
                            have HP21 := Kd.R_putg HO_5.out (x6_2 : Int) true
                            go_wp2_with (first | ((with_reducible refine gate_store (t := 4) (p := 36) rfl ?_); refine store_event (t := 4) (p := 36) (v := ?vo_w22) (w1 := (wc.setCell ⟨go20, (x6_2 : Int).toNat, none⟩ (.bool true))) ?hg ?ho ?hn ?hr ?_; (case ho => rfl); (case hg => rfl); (case hn => rfl); (case hr => first | (go_simp; done) | (go_simp; rfl)); intro w22 hw; have hg : wc.grownBy w22 (some go20) := (by rw [hw]; exact HP21.2); have hp_ : Kd.R Kd.bool 4 w22 w.heap.size (fun _ => True) (.slice (some ⟨go20, 0, none⟩) x5_2.length co20) y173 := (by rw [hw, Ny173.out]; exact HP21.1); clear HP21; have n0_ := Aside0.mk (Kd.S_after (v := (.slice (some ⟨go20, 0, none⟩) x5_2.length co20)) (v1 := (.slice (some ⟨go20, 0, none⟩) x5_2.length co20)) (ok := (fun _ => True)) (by (with_reducible repeat (first | apply Kd.S_alloc | apply Kd.S_drewN | apply Kd.S_drew)); exact Kd.S_mono HO_3.out (fun _ hk => ⟨trivial, hk⟩)) hg (.inl rfl)); have n1_ := Aside0.mk (hp_); have n2_ := Aside0.mk ((by rw [hw]; exact below_set (HB.out) GB20.out : Below w.heap.size w w22)); clear HO_3; clear HO_5; clear HB; have HO_3 := n0_; have HO_5 := n1_; have HB := n2_; clear n0_ n1_ n2_; clear hg hw hp_))
                            go_loopg [7] kj7 (fun kq v7 w' => ∃ (x5_4 : List Bool) (x7_4 : Int), v7 = .int .i64 x7_4 ∧ Aside0 (marchlandref09_Ahead.l2 kq l0 x3_1 x4_1 x5_4 x6_2 x7_4 = some r) ∧ Aside0 (kq ≤ kj7) ∧ Aside0 (Kd.S (Kd.slice 4 Kd.bool) 38 w' w.heap.size (fun k_ => some k_ ≠ ((.slice (some ⟨go20, 0, none⟩) x5_2.length co20) : Value).ownBlock) u3 x3_1) ∧ Aside0 (Kd.R Kd.bool 4 w' w.heap.size (fun _ => True) (.slice (some ⟨go20, 0, none⟩) x5_2.length co20) x5_4) ∧ Aside0 (Below w.heap.size w w'))
                            case atStart => exact ⟨(y173), (0), (by first | rfl | (simp; done) | (simp [*]; done)), H', ⟨Nat.le_refl _⟩, ⟨by (with_reducible repeat (first | apply Kd.S_alloc | apply Kd.S_drewN | apply Kd.S_drew)); exact Kd.S_mono HO_3.out (fun _ hk => hk.2)⟩, ⟨by (with_reducible repeat (first | apply Kd.R_alloc | apply Kd.R_drewN | apply Kd.R_drew)); exact HO_5.out⟩, ⟨by repeat (first | (with_reducible first | exact HB.out | apply below_alloc | apply pw_below_drewN | apply below_drew1) | exact HB.out)⟩⟩
                            case round =>
                              clear H'
                              try clear c1
                              try clear p1
                              try clear q1
                              try clear hx1
                              try clear c2
                              try clear c2b0
                              try clear p2
                              try clear q2
                              try clear hx2
                              try clear hf2
                              try clear c3
                              try clear c3b0
                              try clear c3b1
                              try clear c4
                              try clear c4b0
                              try clear c4b1
                              try clear p6
                              try clear c7
                              try clear c7b0
                              try clear c9
                              try clear c9b0
                              try clear c10
                              try clear c10b0
                              try clear q11
                              try clear c12
                              try clear c17
                              try clear p17
                              try clear q17
                              try clear hx17
                              try clear c18
                              try clear c18b0
                              try clear c19
                              try clear c19b0
                              try clear p20
                              try clear q20
                              try clear hx20
                              try clear hf20
                              try clear hx171_0
                              try clear hx20_0
                              try clear p1
                              try clear p171
                              try clear p2
                              try clear p20
                              try clear p6
                              try clear q1
                              try clear q11
                              try clear q171
                              try clear q20
                              obtain ⟨x5_4, x7_4, rfl, HA, HK4, HO_3, HO_5, HB⟩ := hrel
                              have hl5_4 := (Kd.R_reads' HO_5.out).1
                              rw [hl5_4] at HO_5
                              (try simp only [hl5_4])
                              (try simp only [hl5_4] at HO_3)
                              cases gk with
                              | zero => exact absurd HA.out (by simp [marchlandref09_Ahead.l2])
                              | succ k4 =>
                                have H := HA.out
                                clear HA
                                simp only [marchlandref09_Ahead.l2] at H
                                by_cases c23 : x7_4 < x6_2
                                · rw [if_pos c23] at H
                                  have c23b0 : decide (x7_4 < x6_2) = true := decide_eq_true c23
                                  clear c23
                                  by_cases c24 : 0 ≤ x7_4
                                  · rw [if_pos c24] at H
                                    have c24b0 : decide (0 ≤ x7_4) = true := decide_eq_true c24
                                    clear c24
                                    by_cases c25 : x7_4 < (x5_4.length : Int)
                                    · rw [if_pos c25] at H
                                      have c25b0 : decide (x7_4 < (x5_4.length : Int)) = true := decide_eq_true c25
                                      clear c25
                                      obtain ⟨bq26, hbq26⟩ : ∃ b_ : Bool, b_ = (rdOf false x5_4 x7_4) := ⟨_, rfl⟩
                                      replace H : (if bq26 = true then (marchlandref09_Ahead.l2 k4 l0 x3_1 x4_1 (x5_4.set (x7_4 : Int).toNat true) x6_2 (wrap64 (x7_4 + 1))) else (if 0 ≤ x6_2 then (if x6_2 < (x3_1.length : Int) then (if x7_4 < ((rd_L5 x3_1 x6_2).length : Int) then (marchlandref09_Ahead.l2 k4 l0 x3_1 x4_1 (x5_4.set (x7_4 : Int).toNat (rdOf false (rd_L5 x3_1 x6_2) x7_4)) x6_2 (wrap64 (x7_4 + 1))) else (none)) else (none)) else (none))) = some r := by rw [← hbq26] at H; exact H
                                      have Nbq26 := Aside0.mk hbq26
                                      clear hbq26
                                      by_cases c27 : bq26 = true
                                      · subst c27
                                        have H1 : (marchlandref09_Ahead.l2 k4 l0 x3_1 x4_1 (x5_4.set (x7_4 : Int).toNat true) x6_2 (wrap64 (x7_4 + 1))) = some r := by rw [if_pos rfl] at H; exact H
                                        clear H
                                        have H := H1
                                        clear H1
                                        obtain ⟨y175, hy175⟩ : ∃ y_ : List Bool, y_ = (x5_4.set (x7_4 : Int).toNat true) := ⟨_, rfl⟩
                                        replace H : (marchlandref09_Ahead.l2 k4 l0 x3_1 x4_1 y175 x6_2 (wrap64 (x7_4 + 1))) = some r := by first | (rw [hy175]; with_reducible exact H) | (have H2_ := (Option.bind_some _ _).symm.trans H; rw [hy175]; with_reducible exact H2_) | (have H2_ := (Option.bind_some _ _).symm.trans H; with_reducible exact H2_) | with_reducible exact H | (rw [hy175]; exact H) | exact H
                                        have Ny175 := Aside0.mk hy175
                                        clear hy175
                                        have H' := Aside0.mk H
                                        clear H
                                        have p174 : 0 ≤ (x7_4 : Int) := of_decide_eq_true (by first | (with_reducible assumption) | assumption)
                                        have q174 : x7_4 < (x5_4.length : Int) := of_decide_eq_true (by first | (with_reducible assumption) | assumption)
                                        obtain ⟨ad174, e174, hx174_0⟩ := Kd.at_bool (Kd.R_reads' HO_5.out).2.2 x7_4 p174 q174
                                        (try rw [← Nbq26.out] at hx174_0)
                                        obtain rfl : (⟨go20, 0, none⟩ : Addr) = ad174 := (by injection e174)
                                        (first | simp only [add_plain] at hx174_0 | simp only [add_at] at hx174_0 | simp only [Addr.add, Nat.zero_add] at hx174_0 | skip)
                                        replace p174 := eq_true p174
                                        replace q174 := eq_true q174
                                        have p28 : 0 ≤ (x7_4 : Int) := of_decide_eq_true (by first | (with_reducible assumption) | assumption)
                                        have q28 : (x7_4 : Int) < ((x5_4.length : Int) : Int) := of_decide_eq_true (by first | (with_reducible assumption) | assumption)
                                        obtain ⟨hx28_0, hf28_0⟩ := Kd.R_celln false HO_5.out (x7_4 : Int) p28 q28
                                        replace p28 := eq_true p28
                                        replace q28 := eq_true q28
                                        have HP29 := Kd.R_putg HO_5.out (x7_4 : Int) true
                                        go_wp2_with (first | ((with_reducible refine gate_store (t := 4) (p := 57) rfl ?_); refine store_event (t := 4) (p := 57) (v := ?vo_w30) (w1 := (wr.setCell ⟨go20, (x7_4 : Int).toNat, none⟩ (.bool true))) ?hg ?ho ?hn ?hr ?_; (case ho => rfl); (case hg => rfl); (case hn => rfl); (case hr => first | (go_simp; done) | (go_simp; rfl)); intro w30 hw; have hg : wr.grownBy w30 (some go20) := (by rw [hw]; exact HP29.2); have hp_ : Kd.R Kd.bool 4 w30 w.heap.size (fun _ => True) (.slice (some ⟨go20, 0, none⟩) x5_4.length co20) y175 := (by rw [hw, Ny175.out]; exact HP29.1); clear HP29; have n0_ := Aside0.mk (Kd.S_after (v := (.slice (some ⟨go20, 0, none⟩) x5_4.length co20)) (v1 := (.slice (some ⟨go20, 0, none⟩) x5_4.length co20)) (ok := (fun _ => True)) (by (with_reducible repeat (first | apply Kd.S_alloc | apply Kd.S_drewN | apply Kd.S_drew)); exact Kd.S_mono HO_3.out (fun _ hk => ⟨trivial, hk⟩)) hg (.inl rfl)); have n1_ := Aside0.mk (hp_); have n2_ := Aside0.mk ((by rw [hw]; exact below_set (HB.out) GB20.out : Below w.heap.size w w30)); clear HO_3; clear HO_5; clear HB; have HO_3 := n0_; have HO_5 := n1_; have HB := n2_; clear n0_ n1_ n2_; clear hg hw hp_))
                                        (try simp only [← hl5_4])
                                        go_roundg k4
                                        case measure => have := HK1.out; have := HK2.out; have := HJ7.out; have := HK4.out; omega
                                        case rel => exact ⟨(y175), (wrap64 (x7_4 + 1)), (by first | rfl | (simp; done) | (simp [*]; done)), H', ⟨by have := HK1.out; have := HK2.out; have := HJ7.out; have := HK4.out; omega⟩, ⟨by (try simp only [hl5_4]); (with_reducible repeat (first | apply Kd.S_alloc | apply Kd.S_drewN | apply Kd.S_drew)); exact Kd.S_mono HO_3.out (fun _ hk => hk.2)⟩, ⟨by (try simp only [hl5_4]); (with_reducible repeat (first | apply Kd.R_alloc | apply Kd.R_drewN | apply Kd.R_drew)); exact HO_5.out⟩, ⟨by repeat (first | (with_reducible first | exact HB.out | apply below_alloc | apply pw_below_drewN | apply below_drew1) | exact HB.out)⟩⟩
                                      · replace c27 := Bool.eq_false_iff.mpr c27
                                        subst c27
                                        have H1 : (if 0 ≤ x6_2 then (if x6_2 < (x3_1.length : Int) then (if x7_4 < ((rd_L5 x3_1 x6_2).length : Int) then (marchlandref09_Ahead.l2 k4 l0 x3_1 x4_1 (x5_4.set (x7_4 : Int).toNat (rdOf false (rd_L5 x3_1 x6_2) x7_4)) x6_2 (wrap64 (x7_4 + 1))) else (none)) else (none)) else (none)) = some r := by rw [if_neg (show ¬ (false = true) by decide)] at H; exact H
                                        clear H
                                        have H := H1
                                        clear H1
                                        by_cases c31 : 0 ≤ x6_2
                                        · rw [if_pos c31] at H
                                          have c31b0 : decide (0 ≤ x6_2) = true := decide_eq_true c31
                                          clear c31
                                          by_cases c32 : x6_2 < (x3_1.length : Int)
                                          · rw [if_pos c32] at H
                                            have c32b0 : decide (x6_2 < (x3_1.length : Int)) = true := decide_eq_true c32
                                            clear c32
                                            by_cases c33 : x7_4 < ((rd_L5 x3_1 x6_2).length : Int)
                                            · rw [if_pos c33] at H
                                              have c33b0 : decide (x7_4 < ((rd_L5 x3_1 x6_2).length : Int)) = true := decide_eq_true c33
                                              clear c33
                                              obtain ⟨y178, hy178⟩ : ∃ y_ : List Bool, y_ = (x5_4.set (x7_4 : Int).toNat (rdOf false (rd_L5 x3_1 x6_2) x7_4)) := ⟨_, rfl⟩
                                              replace H : (marchlandref09_Ahead.l2 k4 l0 x3_1 x4_1 y178 x6_2 (wrap64 (x7_4 + 1))) = some r := by first | (rw [hy178]; with_reducible exact H) | (have H2_ := (Option.bind_some _ _).symm.trans H; rw [hy178]; with_reducible exact H2_) | (have H2_ := (Option.bind_some _ _).symm.trans H; with_reducible exact H2_) | with_reducible exact H | (rw [hy178]; exact H) | exact H
                                              have Ny178 := Aside0.mk hy178
                                              clear hy178
                                              have H' := Aside0.mk H
                                              clear H
                                              have p174 : 0 ≤ (x7_4 : Int) := of_decide_eq_true (by first | (with_reducible assumption) | assumption)
                                              have q174 : x7_4 < (x5_4.length : Int) := of_decide_eq_true (by first | (with_reducible assumption) | assumption)
                                              obtain ⟨ad174, e174, hx174_0⟩ := Kd.at_bool (Kd.R_reads' HO_5.out).2.2 x7_4 p174 q174
                                              (try rw [← Nbq26.out] at hx174_0)
                                              obtain rfl : (⟨go20, 0, none⟩ : Addr) = ad174 := (by injection e174)
                                              (first | simp only [add_plain] at hx174_0 | simp only [add_at] at hx174_0 | simp only [Addr.add, Nat.zero_add] at hx174_0 | skip)
                                              replace p174 := eq_true p174
                                              replace q174 := eq_true q174
                                              obtain ⟨Ao35, co35, eo35⟩ := Kd.S_slice HO_3.out
                                              subst eo35
                                              have p176 : 0 ≤ (x6_2 : Int) := of_decide_eq_true (by first | (with_reducible assumption) | assumption)
                                              have q176 : x6_2 < (x3_1.length : Int) := of_decide_eq_true (by first | (with_reducible assumption) | assumption)
                                              obtain ⟨ad176, A176_0, c176_0, e176, hx176_0, hl176_0, hi176_0⟩ := at_L5 (Kd.S_reads' HO_3.out).2.2 x6_2 p176 q176
                                              cases e176
                                              obtain ⟨ce176, hce176, hMe176, hcc176⟩ := Kd.S_get HO_3.out [] x6_2 p176 (by first | exact q176 | exact of_decide_eq_true (by first | (with_reducible assumption) | assumption) | (have e_ := (Kd.S_reads' HO_3.out).1; omega))
                                              obtain ⟨ve176_0, rfl, ge176_0⟩ := hMe176
                                              have hv176_0 := hcc176 0 _ rfl
                                              rw [Nat.add_zero, show ((Kd.slice 4 Kd.bool)).sz = 1 from rfl, Nat.mul_one] at hv176_0
                                              replace hv176_0 := Option.some.inj (hv176_0.symm.trans hx176_0)
                                              rw [hv176_0] at ge176_0
                                              have HL176_0 := Aside0.mk (show Kd.R Kd.bool 4 _ _ _ _ (rd_L5 x3_1 x6_2) from ge176_0)
                                              clear hv176_0 ge176_0
                                              clear hcc176 hce176
                                              have HR176_0 := Aside0.mk hi176_0
                                              have HC176_0 := Aside0.mk hl176_0
                                              clear hi176_0 hl176_0
                                              replace p176 := eq_true p176
                                              replace q176 := eq_true q176
                                              have p177 : 0 ≤ (x7_4 : Int) := of_decide_eq_true (by first | (with_reducible assumption) | assumption)
                                              have q177 : x7_4 < ((rd_L5 x3_1 x6_2).length : Int) := of_decide_eq_true (by first | (with_reducible assumption) | assumption)
                                              obtain ⟨ad177, e177, hx177_0⟩ := Kd.at_bool (by repeat (first | (with_reducible exact HR176_0.out) | (with_reducible refine Kd.C_alloc ?_ _) | (with_reducible refine Kd.C_drewN ?_ _) | (with_reducible refine Kd.C_drew ?_) | exact HR176_0.out)) x7_4 p177 q177
                                              (try rw [← Nbq26.out] at hx177_0)
                                              cases e177
                                              replace p177 := eq_true p177
                                              replace q177 := eq_true q177
                                              have p34 : 0 ≤ (x7_4 : Int) := of_decide_eq_true (by first | (with_reducible assumption) | assumption)
                                              have q34 : (x7_4 : Int) < ((x5_4.length : Int) : Int) := of_decide_eq_true (by first | (with_reducible assumption) | assumption)
                                              obtain ⟨hx34_0, hf34_0⟩ := Kd.R_celln false HO_5.out (x7_4 : Int) p34 q34
                                              replace p34 := eq_true p34
                                              replace q34 := eq_true q34
                                              have HP36 := Kd.R_putg HO_5.out (x7_4 : Int) (rdOf false (rd_L5 x3_1 x6_2) x7_4)
                                              go_wp2_with (first | ((with_reducible refine gate_store (t := 4) (p := 57) rfl ?_); refine store_event (t := 4) (p := 57) (v := ?vo_w37) (w1 := (wr.setCell ⟨go20, (x7_4 : Int).toNat, none⟩ (.bool (rdOf false (rd_L5 x3_1 x6_2) x7_4)))) ?hg ?ho ?hn ?hr ?_; (case ho => rfl); (case hg => rfl); (case hn => rfl); (case hr => first | (go_simp; done) | (go_simp; rfl)); intro w37 hw; have hg : wr.grownBy w37 (some go20) := (by rw [hw]; exact HP36.2); have hp_ : Kd.R Kd.bool 4 w37 w.heap.size (fun _ => True) (.slice (some ⟨go20, 0, none⟩) x5_4.length co20) y178 := (by rw [hw, Ny178.out]; exact HP36.1); clear HP36; have n0_ := Aside0.mk (Kd.S_after (v := (.slice (some ⟨go20, 0, none⟩) x5_4.length co20)) (v1 := (.slice (some ⟨go20, 0, none⟩) x5_4.length co20)) (ok := (fun _ => True)) (by (with_reducible repeat (first | apply Kd.S_alloc | apply Kd.S_drewN | apply Kd.S_drew)); exact Kd.S_mono HO_3.out (fun _ hk => ⟨trivial, hk⟩)) hg (.inl rfl)); have n1_ := Aside0.mk (hp_); have n2_ := Aside0.mk (Kd.R_after (v := (.slice (some ⟨go20, 0, none⟩) x5_4.length co20)) (v1 := (.slice (some ⟨go20, 0, none⟩) x5_4.length co20)) (ok := (fun k_ => some k_ ≠ (.slice (some ad176) x3_1.length co35 : Value).ownBlock)) (by (with_reducible repeat (first | apply Kd.R_alloc | apply Kd.R_drewN | apply Kd.R_drew)); exact Kd.R_mono HL176_0.out (fun _ hk => ⟨hk.2, hk.1⟩)) hg (.inl rfl)); have n3_ := Aside0.mk ((by rw [hw]; exact below_set (HB.out) GB20.out : Below w.heap.size w w37)); clear HO_3; clear HO_5; clear HL176_0; clear HB; have HO_3 := n0_; have HO_5 := n1_; have HL176_0 := n2_; have HB := n3_; clear n0_ n1_ n2_ n3_; clear hg hw hp_))
                                              (try simp only [← hl5_4])
                                              go_roundg k4
                                              case measure => have := HK1.out; have := HK2.out; have := HJ7.out; have := HK4.out; omega
                                              case rel => exact ⟨(y178), (wrap64 (x7_4 + 1)), (by first | rfl | (simp; done) | (simp [*]; done)), H', ⟨by have := HK1.out; have := HK2.out; have := HJ7.out; have := HK4.out; omega⟩, ⟨by (try simp only [hl5_4]); (with_reducible repeat (first | apply Kd.S_alloc | apply Kd.S_drewN | apply Kd.S_drew)); exact Kd.S_mono HO_3.out (fun _ hk => hk.2)⟩, ⟨by (try simp only [hl5_4]); (with_reducible repeat (first | apply Kd.R_alloc | apply Kd.R_drewN | apply Kd.R_drew)); exact HO_5.out⟩, ⟨by repeat (first | (with_reducible first | exact HB.out | apply below_alloc | apply pw_below_drewN | apply below_drew1) | exact HB.out)⟩⟩
                                            · rw [if_neg c33] at H
                                              exact absurd H (by simp)
                                          · rw [if_neg c32] at H
                                            exact absurd H (by simp)
                                        · rw [if_neg c31] at H
                                          exact absurd H (by simp)
                                    · rw [if_neg c25] at H
                                      exact absurd H (by simp)
                                  · rw [if_neg c24] at H
                                    exact absurd H (by simp)
                                · rw [if_neg c23] at H
                                  have c23b0 : decide (x7_4 < x6_2) = false := decide_eq_false c23
                                  clear c23
                                  have H' := Aside0.mk H
                                  clear H
                                  go_wp2
                                  (try simp only [← hl5_4])
                                  go_roundg k4
                                  case measure => have := HK1.out; have := HK2.out; have := HJ7.out; have := HK4.out; omega
                                  case rel => exact ⟨(x5_4), (wrap64 (x6_2 - 1)), (by first | rfl | (simp; done) | (simp [*]; done)), H', ⟨by have := HK1.out; have := HK2.out; have := HJ7.out; have := HK4.out; omega⟩, ⟨by (try simp only [hl5_4]); (with_reducible repeat (first | apply Kd.S_alloc | apply Kd.S_drewN | apply Kd.S_drew)); exact HO_3.out⟩, ⟨by (try simp only [hl5_4]); (with_reducible repeat (first | apply Kd.R_alloc | apply Kd.R_drewN | apply Kd.R_drew)); exact HO_5.out⟩, ⟨by repeat (first | (with_reducible first | exact HB.out | apply below_alloc | apply pw_below_drewN | apply below_drew1) | exact HB.out)⟩⟩
                          · rw [if_neg c19] at H
                            exact absurd H (by simp)
                        · rw [if_neg c18] at H
                          exact absurd H (by simp)
                · rw [if_neg c7] at H
                  have c7b0 : decide (0 ≤ x6_2) = false := decide_eq_false c7
                  clear c7
                  by_cases c38 : x3_1.length < 5864062014805
                  · rw [if_pos c38] at H
                    have LMc38 := Aside0.mk c38
                    clear c38
                    obtain ⟨y168, hy168⟩ : ∃ y_ : List (List Bool), y_ = (x3_1 ++ [x5_2]) := ⟨_, rfl⟩
                    replace H : (marchlandref09_Ahead.l0 k2 l0 y168 (wrap64 (x4_1 + 1))) = some r := by first | (rw [hy168]; with_reducible exact H) | (have H2_ := (Option.bind_some _ _).symm.trans H; rw [hy168]; with_reducible exact H2_) | (have H2_ := (Option.bind_some _ _).symm.trans H; with_reducible exact H2_) | with_reducible exact H | (rw [hy168]; exact H) | exact H
                    have Ny168 := Aside0.mk hy168
                    clear hy168
                    have H' := Aside0.mk H
                    clear H
                    obtain ⟨Ao40, co40, eo40⟩ := Kd.R_slice HO_5.out
                    subst eo40
                    go_wp2_with (first | ((with_reducible refine gate_builtin (b := .append) (xs := #[.tmp 58, .tmp 60]) rfl ?_); at_builtin; refine Kd.S_append (Kd.slice 4 Kd.bool) (w0 := w) w.heap.size rfl (.tmp 58) (.tmp 60) 35 38 (.slice none 0 0) 24 rfl Try.underlying35 info38 rfl (by decide) (by omega) u3 x3_1 x5_2 [.slice Ao40 x5_2.length co40] (fun _ => True) (fun k_ => some k_ = (.slice Ao40 x5_2.length co40 : Value).ownBlock) rfl rfl ?aP (fun k_ hk_ => ((Kd.R_mono (ok' := fun k_ => ((fun _ => True)) k_ ∧ some k_ ≠ (u3 : Value).ownBlock) (Kd.R_apart' (HO_5.out) (Kd.S_typed HO_3.out) (by decide)) (fun k_ hk => ⟨trivial, hk.2⟩))).1 k_ hk_.symm) ?aF ?aO ?aB ?aS ?aL ?_; (case aP => exact Kd.M_row (Kd.R_mono (Kd.R_tight rfl (Kd.R_mono (ok' := fun k_ => ((fun _ => True)) k_ ∧ some k_ ≠ (u3 : Value).ownBlock) (Kd.R_apart' (HO_5.out) (Kd.S_typed HO_3.out) (by decide)) (fun k_ hk => ⟨trivial, hk.2⟩))) (fun _ h_ => h_))); (case aB => exact (by repeat (first | (with_reducible first | exact HB.out | apply below_alloc | apply pw_below_drewN | apply below_drew1) | exact HB.out))); (case aF => exact (fun _ _ => trivial)); (case aO => exact (by (with_reducible repeat (first | apply Kd.S_alloc | apply Kd.S_drewN | apply Kd.S_drew)); exact Kd.S_mono HO_3.out (fun k_ hk => ⟨trivial, fun e_ => hk e_⟩))); (case aS => exact (below_size (by repeat (first | (with_reducible first | exact HB.out | apply below_alloc | apply pw_below_drewN | apply below_drew1) | exact HB.out)))); (case aL => have := LMc38.out; omega); intro v169 w39 ho hb hg hat; rw [← Ny168.out] at ho; have n0_ := Aside0.mk (hb); have n1_ := Aside0.mk (ho); clear HB; clear HO_3; clear HO_5; have HB := n0_; have HO170 := n1_; clear n0_ n1_; clear ho hb hg hat))
                    go_roundg k2
                    case measure => have := HK1.out; have := HK2.out; omega
                    case rel => exact ⟨(y168), (wrap64 (x4_1 + 1)), (by first | rfl | (simp; done) | (simp [*]; done)), H', ⟨by have := HK1.out; have := HK2.out; omega⟩, ⟨by (with_reducible repeat (first | apply Kd.S_alloc | apply Kd.S_drewN | apply Kd.S_drew)); exact HO170.out⟩, ⟨by repeat (first | (with_reducible first | exact HB.out | apply below_alloc | apply pw_below_drewN | apply below_drew1) | exact HB.out)⟩⟩
                  · rw [if_neg c38] at H
                    exact absurd H (by simp)
          · rw [if_neg c4] at H
            exact absurd H (by simp)
        · rw [if_neg c3] at H
          exact absurd H (by simp)
      · rw [if_neg c2] at H
        have c2b0 : decide (x4_1 < (l0.length : Int)) = false := decide_eq_false c2
        clear c2
        obtain rfl := Option.some.inj H
        go_wp2
        go_ret
        exact ⟨_, by first | rfl | (simp [errW_none, errW_some] <;> rfl) | (simp [*, errW_none, errW_some] <;> rfl), by (with_reducible repeat (first | apply Kd.S_alloc | apply Kd.S_drewN | apply Kd.S_drew)); exact HO_3.out, by repeat (first | (with_reducible first | exact HB.out | apply below_alloc | apply pw_below_drewN | apply below_drew1) | exact HB.out)⟩
end Go.Proofs.Ytlcnckbmolefpaa.P
end
section
/- ref09.Race, by hand: the first two that meet. -/
namespace Go.Proofs.Ytlcnckbmolefpaa.P
open Go.RowKit Go.Maps Go.Proofs.Ytlcnckbmolefpaa.CK Go.Proofs.YtlcnckbmolefpaaW.PrintWords Go.Proofs.YtlcnckbmolefpaaW.PrintLast Go.Proofs.YtlcnckbmolefpaaW.PrintMore
set_option linter.unusedVariables false
set_option linter.unusedSimpArgs false
def e7 (x : S127) : Ev := ⟨x.f0, x.f1, x.f2, x.f3⟩
/-- do they meet? (the i-th and the j-th; i ahead) -/
def meet7 (l : List S127) (ah : List (List Bool)) (j i : Nat) : Bool := clashE (e7 (rd_T127 l (i : Int))) (e7 (rd_T127 l (j : Int))) && !rdOf false (rd_L5 ah (j : Int)) (i : Int)
def raceM (m : Nat → Nat → Bool) : Nat → Nat → Int × Int
  | _, 0 => (-1, -1)
  | j, d + 1 => match (List.range j).find? (m j) with
    | some i => ((i : Int), (j : Int))
    | none => raceM m (j + 1) d
def sqB (n : Nat) (ah : List (List Bool)) : Bool := decide (ah.length = n) && ah.all fun r => decide (r.length = n)
theorem sqB_spec {n : Nat} {ah : List (List Bool)} (h : sqB n ah = true) : ah.length = n ∧ ∀ j : Int, 0 ≤ j → j < n → (rd_L5 ah j).length = n := by
  unfold sqB at h
  rw [Bool.and_eq_true, decide_eq_true_iff, List.all_eq_true] at h
  refine ⟨h.1, fun j h0 h1 => ?_⟩
  have hl : j.toNat < ah.length := by omega
  have := h.2 ah[j.toNat] (List.getElem_mem _)
  unfold rd_L5
  rw [List.getD_eq_getElem?_getD, List.getElem?_eq_getElem hl]
  exact of_decide_eq_true this
def marchlandref09_Race.f (k : Nat) (l0 : List S127) : Option (Int × Int) := (marchlandref09_Ahead.f k l0).bind fun ah => if l0.length ≤ 1000000 then (if sqB l0.length ah = true then some (raceM (meet7 l0 ah) 0 l0.length) else none) else none
theorem marchlandref09_Race.mono (k : Nat) (l0 : List S127) : LeO (marchlandref09_Race.f k l0) (marchlandref09_Race.f (k + 1) l0) := by
  unfold marchlandref09_Race.f
  first | exact LeO.bind (marchlandref09_Ahead.mono k _) (fun _ => LeO.refl _) | exact LeO.bind (marchlandref09_Ahead.mono _ k) (fun _ => LeO.refl _) | exact LeO.bind (marchlandref09_Ahead.mono k) (fun _ => LeO.refl _)
theorem raceM_none {m : Nat → Nat → Bool} {j d : Nat} (h : (List.range j).find? (m j) = none) : raceM m j (d + 1) = raceM m (j + 1) d := by show (match (List.range j).find? (m j) with | some i => _ | none => _) = _; rw [h]
theorem raceM_some {m : Nat → Nat → Bool} {j d i : Nat} (h : (List.range j).find? (m j) = some i) : raceM m j (d + 1) = ((i : Int), (j : Int)) := by show (match (List.range j).find? (m j) with | some i => _ | none => _) = _; rw [h]
theorem find_range_some {p : Nat → Bool} {n i : Nat} (hi : i < n) (hp : p i = true) (hb : ∀ k, k < i → p k = false) : (List.range n).find? p = some i :=
  find_at _ i i (by simp [hi]) hp (fun m hm y hy => by
    have : y = m := by
      rw [List.getElem?_range (by omega)] at hy
      injection hy with hy; exact hy.symm
    rw [this]; exact hb m hm)
theorem find_range_none {p : Nat → Bool} {n : Nat} (hb : ∀ k, k < n → p k = false) : (List.range n).find? p = none := by
  rw [List.find?_eq_none]
  intro x hx
  rw [hb x (List.mem_range.1 hx)]; simp
theorem blk7 {w : World} {be : Nat} {e : S127} (hb : w.heap[be]? = some (.cells #[.int .i64 e.f0, .int .i64 e.f1, .int .i64 e.f2, .bool e.f3] 127 (0, 0))) : w.cell? ⟨be, 0, none⟩ = some (.int .i64 e.f0) ∧ w.cell? ⟨be, 1, none⟩ = some (.int .i64 e.f1) ∧ w.cell? ⟨be, 2, none⟩ = some (.int .i64 e.f2) ∧ w.cell? ⟨be, 3, none⟩ = some (.bool e.f3) := by
  refine ⟨?_, ?_, ?_, ?_⟩ <;> (rw [blk_cell hb]; rfl)
set_option maxHeartbeats 8000000 in
set_option maxRecDepth 100000 in
theorem marchlandref09_Race.calls (k : Nat) (A0 : Option Addr) (c0 : Nat) (l0 : List S127) (r1 r2 : Int) (w : World) (hr0 : Kd.C k127 w A0 l0.length l0) (hc0 : l0.length ≤ c0) (h : marchlandref09_Race.f k l0 = some (r1, r2)) :
    Calls Try.prog 29 #[.slice A0 l0.length c0] w fun e w' => e = .returned (.tuple #[.int .i64 r1, .int .i64 r2]) ∧ Below w.heap.size w w' := by
  unfold marchlandref09_Race.f at h
  obtain ⟨ah, hah, h⟩ := Option.bind_eq_some_iff.1 h
  by_cases hl : l0.length ≤ 1000000
  · rw [if_pos hl] at h
    by_cases hsq : sqB l0.length ah = true
    · rw [if_pos hsq] at h
      have HR := Aside0.mk (Option.some.inj h)
      have HSQ := Aside0.mk (sqB_spec hsq)
      have HAH := Aside0.mk hah
      have HC := Aside0.mk hr0
      have hu127 := Try.underlying127
      clear h hsq hah hr0
      go_enter Try.func29, Try.ntmps29
      go_wp2_with (go_at_call 25; (with_reducible refine (marchlandref09_Ahead.calls k A0 c0 l0 ah _ HC.out hc0 HAH.out).mono ?_); rintro e_ w1 ⟨va, rfl, hs1, hb1⟩; obtain ⟨AA, cA, rfl, hAle, hCA⟩ := Kd.S_reads hs1; have HCA := Aside0.mk hCA; have HB1 := Aside0.mk hb1; clear hs1 hCA hb1)
      go_loopw [5] (fun v5 wr => ∃ j : Int, v5 = .int .i64 j ∧ Aside0 (0 ≤ j ∧ j ≤ l0.length ∧ raceM (meet7 l0 ah) j.toNat (l0.length - j.toNat) = (r1, r2)) ∧ Aside0 (Below w1.heap.size w1 wr)) (fun v5 _ => (l0.length - intOf v5).toNat)
      case atStart => exact ⟨0, rfl, ⟨by omega, by omega, HR.out⟩, ⟨Below.refl _ _⟩⟩
      case round =>
        obtain ⟨j, rfl, HJ, HBW⟩ := hrel
        have j0 := HJ.out.1
        by_cases hlt : j < (l0.length : Int)
        · have hltb := decide_eq_true hlt
          go_wp2
          go_loopw [6] (fun v6 wr2 => ∃ i : Int, v6 = .int .i64 i ∧ Aside0 (0 ≤ i ∧ i ≤ j ∧ ∀ q, q < i.toNat → meet7 l0 ah j.toNat q = false) ∧ Aside0 (Below wr.heap.size wr wr2)) (fun v6 _ => (j - intOf v6).toNat)
          case atStart => exact ⟨0, rfl, ⟨by omega, by omega, fun q hq => by omega⟩, ⟨Below.refl _ _⟩⟩
          case round =>
            obtain ⟨i, rfl, HI, HB2⟩ := hrel
            have i0 := HI.out.1
            by_cases hij : i < j
            · have hijb := decide_eq_true hij
              have hil : i < (l0.length : Int) := by omega
              have HCW := Aside0.mk (Kd.C_below (Kd.C_below (Kd.C_below HC.out HB1.out) HBW.out) HB2.out)
              obtain ⟨ad, hA, hx0, hx1, hx2, hx3⟩ := at_T127 HCW.out i i0 hil
              subst hA
              obtain ⟨ad', hA', hy0, hy1, hy2, hy3⟩ := at_T127 HCW.out j j0 hlt
              obtain rfl : ad = ad' := by injection hA'
              have HMM : Aside0 (meet7 l0 ah j.toNat i.toNat = (clashE (e7 (rd_T127 l0 i)) (e7 (rd_T127 l0 j)) && !rdOf false (rd_L5 ah j) i)) := ⟨by unfold meet7; rw [show ((i.toNat : Nat) : Int) = i by omega, show ((j.toNat : Nat) : Int) = j by omega]⟩
              generalize rd_T127 l0 i = ei at hx0 hx1 hx2 hx3 HMM
              generalize rd_T127 l0 j = ej at hy0 hy1 hy2 hy3 HMM
              have q0 := eq_true i0
              have q1 := eq_true hil
              have q2 := eq_true j0
              have q3 := eq_true hlt
              go_upto_region 8 with fail
              have hmk : ∀ w', Below wr.heap.size wr w' → (fun w' => w'.cell? (ad.add (i.toNat * 4)) = some (.int .i64 ei.f0) ∧ w'.cell? ⟨(ad.add (i.toNat * 4)).block, (ad.add (i.toNat * 4)).off + 1, none⟩ = some (.int .i64 ei.f1) ∧ w'.cell? ⟨(ad.add (i.toNat * 4)).block, (ad.add (i.toNat * 4)).off + 2, none⟩ = some (.int .i64 ei.f2) ∧ w'.cell? ⟨(ad.add (i.toNat * 4)).block, (ad.add (i.toNat * 4)).off + 3, none⟩ = some (.bool ei.f3) ∧ w'.cell? (ad.add (j.toNat * 4)) = some (.int .i64 ej.f0) ∧ w'.cell? ⟨(ad.add (j.toNat * 4)).block, (ad.add (j.toNat * 4)).off + 1, none⟩ = some (.int .i64 ej.f1) ∧ w'.cell? ⟨(ad.add (j.toNat * 4)).block, (ad.add (j.toNat * 4)).off + 2, none⟩ = some (.int .i64 ej.f2) ∧ w'.cell? ⟨(ad.add (j.toNat * 4)).block, (ad.add (j.toNat * 4)).off + 3, none⟩ = some (.bool ej.f3)) w' := fun w' hb => ⟨pw_cell_below hb hx0, pw_cell_below hb hx1, pw_cell_below hb hx2, pw_cell_below hb hx3, pw_cell_below hb hy0, pw_cell_below hb hy1, pw_cell_below hb hy2, pw_cell_below hb hy3⟩
              have HMK := Aside0.mk hmk
              clear hmk
              go_cut [7, 8] from 23 to 83 (fun v7 v8 w' => ∃ b7 b8 : Nat, v7 = .pointer (some ⟨b7, 0, none⟩) ∧ v8 = .pointer (some ⟨b8, 0, none⟩) ∧ Aside0 (w'.heap[b7]? = some (.cells #[.int .i64 ei.f0, .int .i64 ei.f1, .int .i64 ei.f2, .bool ei.f3] 127 (0, 0))) ∧ Aside0 (w'.heap[b8]? = some (.cells #[.int .i64 ej.f0, .int .i64 ej.f1, .int .i64 ej.f2, .bool ej.f3] 127 (0, 0))) ∧ Aside0 (Below wr.heap.size wr w'))
              case first =>
                go_region_held3 (fun w' => w'.cell? (ad.add (i.toNat * 4)) = some (.int .i64 ei.f0) ∧ w'.cell? ⟨(ad.add (i.toNat * 4)).block, (ad.add (i.toNat * 4)).off + 1, none⟩ = some (.int .i64 ei.f1) ∧ w'.cell? ⟨(ad.add (i.toNat * 4)).block, (ad.add (i.toNat * 4)).off + 2, none⟩ = some (.int .i64 ei.f2) ∧ w'.cell? ⟨(ad.add (i.toNat * 4)).block, (ad.add (i.toNat * 4)).off + 3, none⟩ = some (.bool ei.f3) ∧ w'.cell? (ad.add (j.toNat * 4)) = some (.int .i64 ej.f0) ∧ w'.cell? ⟨(ad.add (j.toNat * 4)).block, (ad.add (j.toNat * 4)).off + 1, none⟩ = some (.int .i64 ej.f1) ∧ w'.cell? ⟨(ad.add (j.toNat * 4)).block, (ad.add (j.toNat * 4)).off + 2, none⟩ = some (.int .i64 ej.f2) ∧ w'.cell? ⟨(ad.add (j.toNat * 4)).block, (ad.add (j.toNat * 4)).off + 3, none⟩ = some (.bool ej.f3))
                  (first | exact HMK.out _ (below_drew (Below.refl _ _)) | exact HMK.out _ (below_alloc (below_drew (Below.refl _ _)) _) | exact HMK.out _ (below_alloc (below_alloc (below_drew (Below.refl _ _)) _) _) | (trace_state; exact HMK.out _ (by repeat (first | exact Below.refl _ _ | apply below_drew | apply below_alloc)))) (fail)
                all_goals
                  go_wp2
                  go_meet
                  case rel => first
                    | exact ⟨wr.heap.size, wr.heap.size + 1, rfl, rfl, ⟨blk_drew (blk_alloc (blk_new wr _) _)⟩, ⟨blk_drew (by have h := blk_new (wr.alloc (.cells #[.int .i64 ei.f0, .int .i64 ei.f1, .int .i64 ei.f2, .bool ei.f3] 127)) (.cells #[.int .i64 ej.f0, .int .i64 ej.f1, .int .i64 ej.f2, .bool ej.f3] 127); simpa using h)⟩, ⟨below_drew (below_alloc (below_alloc (Below.refl _ _) _) _)⟩⟩
                    | exact ⟨wr.heap.size + 1, wr.heap.size, rfl, rfl, ⟨blk_drew (by have h := blk_new (wr.alloc (.cells #[.int .i64 ej.f0, .int .i64 ej.f1, .int .i64 ej.f2, .bool ej.f3] 127)) (.cells #[.int .i64 ei.f0, .int .i64 ei.f1, .int .i64 ei.f2, .bool ei.f3] 127); simpa using h)⟩, ⟨blk_drew (blk_alloc (blk_new wr _) _)⟩, ⟨below_drew (below_alloc (below_alloc (Below.refl _ _) _) _)⟩⟩
              case rest =>
                obtain ⟨b7, b8, rfl, rfl, H7, H8, HB3⟩ := hcut
                have HBX := Aside0.mk ((HBW.out.trans (HB2.out.mono HBW.out.size)).trans (HB3.out.mono (Nat.le_trans HBW.out.size HB2.out.size)))
                obtain ⟨hf0, hf1, hf2, hf3⟩ := blk7 H7.out
                obtain ⟨hg0, hg1, hg2, hg3⟩ := blk7 H8.out
                have hjA : j < (ah.length : Int) := by rw [HSQ.out.1]; exact hlt
                obtain ⟨aa, RA, rc, hAA, hrow, hrl, hrC⟩ := at_L5 (Kd.C_below HCA.out HBX.out) j j0 hjA
                have hiR : i < ((rd_L5 ah j).length : Int) := by rw [HSQ.out.2 j j0 hlt]; exact hil
                obtain ⟨ra, hRA, hbit⟩ := Kd.at_bool hrC i i0 hiR
                subst hAA hRA
                generalize rdOf false (rd_L5 ah j) i = bt at hbit HMM
                have q4 := eq_true hjA
                have q5 := eq_true hiR
                clear hx0 hx1 hx2 hx3 hy0 hy1 hy2 hy3 hrC HMK
                go_upto_region 9 with fail
                go_cut [9] from 31 to 55 (fun v9 w' => v9 = .bool (plainE (e7 ei) && plainE (e7 ej) && decide (ei.f2 = ej.f2)) ∧ Aside0 (w' = wc))
                case first =>
                  by_cases a2 : ei.f1 = 2
                  · have a2b := decide_eq_true a2
                    by_cases b2 : ej.f1 = 2
                    · have b2b := decide_eq_true b2
                      by_cases ae : ei.f2 = ej.f2
                      · have aeb := decide_eq_true ae
                        have HPL : Aside0 ((plainE (e7 ei) && plainE (e7 ej) && decide (ei.f2 = ej.f2)) = true) := ⟨by simp [plainE, e7, a2, b2, ae]⟩
                        go_wp2
                        go_meet
                        case rel => exact ⟨by first | (rw [HPL.out]; done) | (rw [HPL.out]; simp [*]; done), ⟨rfl⟩⟩
                      · have aeb := decide_eq_false ae
                        have HPL : Aside0 ((plainE (e7 ei) && plainE (e7 ej) && decide (ei.f2 = ej.f2)) = false) := ⟨by simp [plainE, e7, a2, b2, ae]⟩
                        go_wp2
                        go_meet
                        case rel => exact ⟨by first | (rw [HPL.out]; done) | (rw [HPL.out]; simp [*]; done), ⟨rfl⟩⟩
                    · have b2b := decide_eq_false b2
                      by_cases b3 : ej.f1 = 3
                      · have b3b := decide_eq_true b3
                        by_cases ae : ei.f2 = ej.f2
                        · have aeb := decide_eq_true ae
                          have HPL : Aside0 ((plainE (e7 ei) && plainE (e7 ej) && decide (ei.f2 = ej.f2)) = true) := ⟨by simp [plainE, e7, a2, b3, ae]⟩
                          go_wp2
                          go_meet
                          case rel => exact ⟨by first | (rw [HPL.out]; done) | (rw [HPL.out]; simp [*]; done), ⟨rfl⟩⟩
                        · have aeb := decide_eq_false ae
                          have HPL : Aside0 ((plainE (e7 ei) && plainE (e7 ej) && decide (ei.f2 = ej.f2)) = false) := ⟨by simp [plainE, e7, a2, b3, ae]⟩
                          go_wp2
                          go_meet
                          case rel => exact ⟨by first | (rw [HPL.out]; done) | (rw [HPL.out]; simp [*]; done), ⟨rfl⟩⟩
                      · have b3b := decide_eq_false b3
                        have HPL : Aside0 ((plainE (e7 ei) && plainE (e7 ej) && decide (ei.f2 = ej.f2)) = false) := ⟨by simp [plainE, e7, a2, b2, b3]⟩
                        go_wp2
                        go_meet
                        case rel => exact ⟨by first | (rw [HPL.out]; done) | (rw [HPL.out]; simp [*]; done), ⟨rfl⟩⟩
                  · have a2b := decide_eq_false a2
                    by_cases a3 : ei.f1 = 3
                    · have a3b := decide_eq_true a3
                      by_cases b2 : ej.f1 = 2
                      · have b2b := decide_eq_true b2
                        by_cases ae : ei.f2 = ej.f2
                        · have aeb := decide_eq_true ae
                          have HPL : Aside0 ((plainE (e7 ei) && plainE (e7 ej) && decide (ei.f2 = ej.f2)) = true) := ⟨by simp [plainE, e7, a3, b2, ae]⟩
                          go_wp2
                          go_meet
                          case rel => exact ⟨by first | (rw [HPL.out]; done) | (rw [HPL.out]; simp [*]; done), ⟨rfl⟩⟩
                        · have aeb := decide_eq_false ae
                          have HPL : Aside0 ((plainE (e7 ei) && plainE (e7 ej) && decide (ei.f2 = ej.f2)) = false) := ⟨by simp [plainE, e7, a3, b2, ae]⟩
                          go_wp2
                          go_meet
                          case rel => exact ⟨by first | (rw [HPL.out]; done) | (rw [HPL.out]; simp [*]; done), ⟨rfl⟩⟩
                      · have b2b := decide_eq_false b2
                        by_cases b3 : ej.f1 = 3
                        · have b3b := decide_eq_true b3
                          by_cases ae : ei.f2 = ej.f2
                          · have aeb := decide_eq_true ae
                            have HPL : Aside0 ((plainE (e7 ei) && plainE (e7 ej) && decide (ei.f2 = ej.f2)) = true) := ⟨by simp [plainE, e7, a3, b3, ae]⟩
                            go_wp2
                            go_meet
                            case rel => exact ⟨by first | (rw [HPL.out]; done) | (rw [HPL.out]; simp [*]; done), ⟨rfl⟩⟩
                          · have aeb := decide_eq_false ae
                            have HPL : Aside0 ((plainE (e7 ei) && plainE (e7 ej) && decide (ei.f2 = ej.f2)) = false) := ⟨by simp [plainE, e7, a3, b3, ae]⟩
                            go_wp2
                            go_meet
                            case rel => exact ⟨by first | (rw [HPL.out]; done) | (rw [HPL.out]; simp [*]; done), ⟨rfl⟩⟩
                        · have b3b := decide_eq_false b3
                          have HPL : Aside0 ((plainE (e7 ei) && plainE (e7 ej) && decide (ei.f2 = ej.f2)) = false) := ⟨by simp [plainE, e7, a3, b2, b3]⟩
                          go_wp2
                          go_meet
                          case rel => exact ⟨by first | (rw [HPL.out]; done) | (rw [HPL.out]; simp [*]; done), ⟨rfl⟩⟩
                    · have a3b := decide_eq_false a3
                      have HPL : Aside0 ((plainE (e7 ei) && plainE (e7 ej) && decide (ei.f2 = ej.f2)) = false) := ⟨by simp [plainE, e7, a2, a3]⟩
                      go_wp2
                      go_meet
                      case rel => exact ⟨by first | (rw [HPL.out]; done) | (rw [HPL.out]; simp [*]; done), ⟨rfl⟩⟩
                case rest =>
                  obtain ⟨rfl, HWC⟩ := hcut
                  obtain rfl := HWC.out
                  clear HWC
                  have HMK2 : Aside0 (meet7 l0 ah j.toNat i.toNat = ((plainE (e7 ei) && plainE (e7 ej) && decide (ei.f2 = ej.f2)) && !decide (ei.f0 = ej.f0) && (decide (ei.f1 = 3) || decide (ej.f1 = 3)) && !bt)) := ⟨HMM.out⟩
                  clear HMM
                  generalize (plainE (e7 ei) && plainE (e7 ej) && decide (ei.f2 = ej.f2)) = pl at HMK2 ⊢
                  go_upto_region 10 with fail
                  go_cut [83] from 56 to 82 (fun v83 w' => v83 = .bool (pl && !decide (ei.f0 = ej.f0) && (decide (ei.f1 = 3) || decide (ej.f1 = 3)) && !bt) ∧ Aside0 (w' = wc))
                  case first =>
                    cases pl with
                    | false =>
                      have HPL : Aside0 ((false && !decide (ei.f0 = ej.f0) && (decide (ei.f1 = 3) || decide (ej.f1 = 3)) && !bt) = false) := ⟨by simp []⟩
                      go_wp2
                      go_meet
                      case rel => exact ⟨by first | (rw [HPL.out]; done) | (rw [HPL.out]; simp [*]; done) | (simp [*]; done), ⟨rfl⟩⟩
                    | true =>
                      by_cases we : ei.f0 = ej.f0
                      · have web := decide_eq_true we
                        have HPL : Aside0 ((true && !decide (ei.f0 = ej.f0) && (decide (ei.f1 = 3) || decide (ej.f1 = 3)) && !bt) = false) := ⟨by simp [we]⟩
                        go_wp2
                        go_meet
                        case rel => exact ⟨by first | (rw [HPL.out]; done) | (rw [HPL.out]; simp [*]; done) | (simp [*]; done), ⟨rfl⟩⟩
                      · have web := decide_eq_false we
                        by_cases a3 : ei.f1 = 3
                        · have a3b := decide_eq_true a3
                          have HPL : Aside0 ((true && !decide (ei.f0 = ej.f0) && (decide (ei.f1 = 3) || decide (ej.f1 = 3)) && !bt) = !bt) := ⟨by simp [we, a3]⟩
                          go_wp2
                          go_meet
                          case rel => exact ⟨by first | (rw [HPL.out]; done) | (rw [HPL.out]; simp [*]; done) | (simp [*]; done), ⟨rfl⟩⟩
                        · have a3b := decide_eq_false a3
                          by_cases b3 : ej.f1 = 3
                          · have b3b := decide_eq_true b3
                            have HPL : Aside0 ((true && !decide (ei.f0 = ej.f0) && (decide (ei.f1 = 3) || decide (ej.f1 = 3)) && !bt) = !bt) := ⟨by simp [we, a3, b3]⟩
                            go_wp2
                            go_meet
                            case rel => exact ⟨by first | (rw [HPL.out]; done) | (rw [HPL.out]; simp [*]; done) | (simp [*]; done), ⟨rfl⟩⟩
                          · have b3b := decide_eq_false b3
                            have HPL : Aside0 ((true && !decide (ei.f0 = ej.f0) && (decide (ei.f1 = 3) || decide (ej.f1 = 3)) && !bt) = false) := ⟨by simp [we, a3, b3]⟩
                            go_wp2
                            go_meet
                            case rel => exact ⟨by first | (rw [HPL.out]; done) | (rw [HPL.out]; simp [*]; done) | (simp [*]; done), ⟨rfl⟩⟩
                  case rest =>
                    obtain ⟨rfl, HWC⟩ := hcut
                    obtain rfl := HWC.out
                    generalize hmt : (pl && !decide (ei.f0 = ej.f0) && (decide (ei.f1 = 3) || decide (ej.f1 = 3)) && !bt) = mt at HMK2 ⊢
                    clear hmt
                    cases mt with
                    | true =>
                      have HRA : Aside0 (i = r1 ∧ j = r2) := ⟨by
                        have h1 := find_range_some (p := meet7 l0 ah j.toNat) (n := j.toNat) (i := i.toNat) (by omega) HMK2.out HI.out.2.2
                        have h2 := HJ.out.2.2
                        rw [show l0.length - j.toNat = (l0.length - j.toNat - 1) + 1 by omega, raceM_some h1] at h2
                        injection h2 with h3 h4
                        omega⟩
                      go_wp2
                      go_ret2
                      exact ⟨by rw [HRA.out.1, HRA.out.2]; rfl, HB1.out.trans (HBX.out.mono HB1.out.size)⟩
                    | false =>
                      go_wp2
                      go_roundw
                      case rel => exact ⟨i + 1, by go_num, ⟨by omega, by omega, fun q hq => by
                        by_cases hqi : q < i.toNat
                        · exact HI.out.2.2 q hqi
                        · obtain rfl : q = i.toNat := by omega
                          exact HMK2.out⟩, ⟨HB2.out.trans (HB3.out.mono HB2.out.size)⟩⟩
                      case measure => simp [intOf]; omega
            · have hijb := decide_eq_false hij
              have HNO := Aside0.mk (find_range_none (p := meet7 l0 ah j.toNat) (n := j.toNat) (fun q hq => HI.out.2.2 q (by omega)))
              go_wp2
              go_roundw
              case rel => exact ⟨j + 1, by go_num, ⟨by omega, by omega, by rw [show (j + 1).toNat = j.toNat + 1 by omega, ← raceM_none HNO.out, show l0.length - (j.toNat + 1) + 1 = l0.length - j.toNat by omega]; exact HJ.out.2.2⟩, ⟨HBW.out.trans (HB2.out.mono HBW.out.size)⟩⟩
              case measure => simp [intOf]; omega
        · have hltb := decide_eq_false hlt
          have HRA : Aside0 (r1 = -1 ∧ r2 = -1) := ⟨by
            have h := HJ.out.2.2
            have h2 := HJ.out.2.1
            rw [show l0.length - j.toNat = 0 by omega] at h
            have h : ((-1 : Int), (-1 : Int)) = (r1, r2) := h
            injection h with h3 h4
            exact ⟨h3.symm, h4.symm⟩⟩
          go_wp2
          go_ret2
          exact ⟨by rw [HRA.out.1, HRA.out.2]; rfl, HB1.out.trans (HBW.out.mono HB1.out.size)⟩
    · rw [if_neg hsq] at h; cases h
  · rw [if_neg hl] at h; cases h
end Go.Proofs.Ytlcnckbmolefpaa.P
end
section
-- Printed by the session's own turn of the print (wip/tools/print2.sh): some callees are proved by hand.
namespace Go.Proofs.Ytlcnckbmolefpaa.P
open Go.RowKit Go.Proofs.YtlcnckbmolefpaaW.PrintWords Go.Proofs.YtlcnckbmolefpaaW.PrintLast Go.Proofs.YtlcnckbmolefpaaW.PrintMore
attribute [local go_sem] max2_int min2_int max_two min_two max_three min_three max_four min_four   -- for this text's walks alone
set_option linter.unusedVariables false
set_option linter.unusedSimpArgs false
/-! ### marchlandlaw09_ClockRaces: function 6 -/
def marchlandlaw09_ClockRaces.f (k : Nat) (l0 : List (S127)) : Option (Bool) := if 0 ≤ (mn (l0.length : Int) 80) then (if (mn (l0.length : Int) 80) ≤ (l0.length : Int) then ((some (l0.take ((mn (l0.length : Int) 80) : Int).toNat : List (S127))).bind fun y221 => ((marchlandlaw09_To.f k y221).bind fun t225 => ((clock_Race.f t225).bind fun bt228 => ((marchlandref09_Race.f k y221).bind fun bt230 => ((marchlandlaw09_told.f).bind fun t232 => (if t232 = true then (if bt228.1 = bt230.1 then (some (bt228.2 == bt230.2)) else (some false)) else (some false))))))) else (none)) else (none)
set_option maxHeartbeats 8000000 in
set_option maxRecDepth 100000 in
theorem marchlandlaw09_ClockRaces.calls (k : Nat) (A0 : Option Addr) (c0 : Nat) (l0 : List (S127)) (r : Bool) (w : World) (hr0 : Kd.C k127 w A0 l0.length l0) (hc0 : l0.length ≤ c0) (h : marchlandlaw09_ClockRaces.f k l0 = some r) :
    Calls Try.prog 6 #[.slice A0 l0.length c0] w fun e w' => e = .returned (.bool r) ∧ Below w.heap.size w w' := by
  have HR0 := Aside0.mk hr0
  have HC0 := Aside0.mk hc0
  clear hr0 hc0
  have HB := Aside0.mk (Below.refl w.heap.size w)
  have H : (if 0 ≤ (mn (l0.length : Int) 80) then (if (mn (l0.length : Int) 80) ≤ (l0.length : Int) then ((some (l0.take ((mn (l0.length : Int) 80) : Int).toNat : List (S127))).bind fun y221 => ((marchlandlaw09_To.f k y221).bind fun t225 => ((clock_Race.f t225).bind fun bt228 => ((marchlandref09_Race.f k y221).bind fun bt230 => ((marchlandlaw09_told.f).bind fun t232 => (if t232 = true then (if bt228.1 = bt230.1 then (some (bt228.2 == bt230.2)) else (some false)) else (some false))))))) else (none)) else (none)) = some r := h
  clear h
  obtain ⟨ji2, hji2⟩ : ∃ j_ : Int, (mn (l0.length : Int) 80) = j_ := ⟨_, rfl⟩
  replace H : (if 0 ≤ (ji2) then (if (ji2) ≤ (l0.length : Int) then ((some (l0.take ((ji2) : Int).toNat : List (S127))).bind fun y221 => ((marchlandlaw09_To.f k y221).bind fun t225 => ((clock_Race.f t225).bind fun bt228 => ((marchlandref09_Race.f k y221).bind fun bt230 => ((marchlandlaw09_told.f).bind fun t232 => (if t232 = true then (if bt228.1 = bt230.1 then (some (bt228.2 == bt230.2)) else (some false)) else (some false))))))) else (none)) else (none)) = some r := by first | (rw [hji2] at H; exact H) | (simp only [hji2] at H ⊢; exact H)
  (try (have hji2h : ji2 ≤ 80 := by (rw [← hji2]; unfold mn; (repeat' split) <;> omega)))
  (try (have hji2g : ji2 ≤ 64 := by omega))
  (try (have hji2l : 0 ≤ ji2 := by (rw [← hji2]; unfold mn; (repeat' split) <;> omega)))
  (try (have hji2m : 0 ≤ ji2 := by omega))
  have hji2_ : (if 80 < (l0.length : Int) then 80 else (l0.length : Int)) = ji2 := hji2
  by_cases c3 : 0 ≤ (ji2)
  · rw [if_pos c3] at H
    have c3b0 := eq_true c3
    have c3b1 : decide (0 ≤ (ji2)) = true := decide_eq_true c3
    clear c3
    by_cases c4 : (ji2) ≤ (l0.length : Int)
    · rw [if_pos c4] at H
      have c4b0 := eq_true c4
      have c4b1 : decide ((ji2) ≤ (l0.length : Int)) = true := decide_eq_true c4
      clear c4
      obtain ⟨y221, hy221⟩ : ∃ y_ : List (S127), y_ = (l0.take ((ji2) : Int).toNat) := ⟨_, rfl⟩
      replace H : ((marchlandlaw09_To.f k y221).bind fun t225 => ((clock_Race.f t225).bind fun bt228 => ((marchlandref09_Race.f k y221).bind fun bt230 => ((marchlandlaw09_told.f).bind fun t232 => (if t232 = true then (if bt228.1 = bt230.1 then (some (bt228.2 == bt230.2)) else (some false)) else (some false)))))) = some r := by first | (rw [hy221]; with_reducible exact H) | (have H2_ := (Option.bind_some _ _).symm.trans H; rw [hy221]; with_reducible exact H2_) | (have H2_ := (Option.bind_some _ _).symm.trans H; with_reducible exact H2_) | with_reducible exact H | (rw [hy221]; exact H) | exact H
      have Ny221 := Aside0.mk hy221
      clear hy221
      replace H := Option.bind_eq_some_iff.mp H
      obtain ⟨t225, A50, H⟩ := H
      replace H : ((clock_Race.f t225).bind fun bt228 => ((marchlandref09_Race.f k y221).bind fun bt230 => ((marchlandlaw09_told.f).bind fun t232 => (if t232 = true then (if bt228.1 = bt230.1 then (some (bt228.2 == bt230.2)) else (some false)) else (some false))))) = some r := H
      have A5 := Aside0.mk A50
      clear A50
      replace H := Option.bind_eq_some_iff.mp H
      obtain ⟨⟨t228, t229⟩, A60, H⟩ := H
      replace H : ((marchlandref09_Race.f k y221).bind fun bt230 => ((marchlandlaw09_told.f).bind fun t232 => (if t232 = true then (if t228 = bt230.1 then (some (t229 == bt230.2)) else (some false)) else (some false)))) = some r := H
      have A6 := Aside0.mk A60
      clear A60
      replace H := Option.bind_eq_some_iff.mp H
      obtain ⟨⟨t230, t231⟩, A70, H⟩ := H
      replace H : ((marchlandlaw09_told.f).bind fun t232 => (if t232 = true then (if t228 = t230 then (some (t229 == t231)) else (some false)) else (some false))) = some r := H
      have A7 := Aside0.mk A70
      clear A70
      replace H := Option.bind_eq_some_iff.mp H
      obtain ⟨t232, A80, H⟩ := H
      replace H : (if t232 = true then (if t228 = t230 then (some (t229 == t231)) else (some false)) else (some false)) = some r := H
      have A8 := Aside0.mk A80
      clear A80
      by_cases c9 : t232 = true
      · subst c9
        have H1 : (if t228 = t230 then (some (t229 == t231)) else (some false)) = some r := by rw [if_pos rfl] at H; exact H
        clear H
        have H := H1
        clear H1
        by_cases c10 : t228 = t230
        · rw [if_pos c10] at H
          have c10b0 : (t228 == t230) = true := beq_iff_eq.mpr c10
          have c10b1 : (t228 != t230) = false := bne_eq_false_iff_eq.mpr c10
          clear c10
          obtain rfl := Option.some.inj H
          have q11 : ((ji2) : Int) ≤ ((l0.length : Int) : Int) := of_decide_eq_true (by first | (with_reducible assumption) | assumption)
          obtain ⟨i011, hi011, _, hsz11, _⟩ := info_parts info127
          have hroom11 : l0.length ≤ c0 := HC0.out
          have hC11 : Kd.C k127 _ A0 l0.length l0 := HR0.out
          have hcut11 := cut_to (P := Try.prog) 32 127 .i64 Try.underlying32 hi011 A0 l0.length c0 (ji2) (of_decide_eq_true (by first | (with_reducible assumption) | assumption)) q11 hroom11
          have hr11 := Kd.C_take (m := ((ji2) : Int).toNat) hC11 (by omega)
          have hy11 : y221.length = ((ji2) : Int).toNat := (by rw [Ny221.out, List.length_take]; omega)
          rw [← Ny221.out] at hr11
          rw [← hy11] at hcut11
          have HR224 := Aside0.mk hr11
          have HC224 := Aside0.mk (show y221.length ≤ c0 from by omega)
          clear hr11 hC11 hroom11 hi011 hsz11
          have KY11 := Aside0.mk hy11
          clear hy11
          replace q11 := eq_true q11
          go_enter Try.func6, Try.ntmps6
          go_wp2_with (first | ((with_reducible refine gate_callee (f := 24) rfl ?_); refine goesL_ (some 14) rfl rfl Try.func24 (by kernel_rfl) rfl #[.slice A0 y221.length c0] rfl (by (try simp only [List.map_toArray, List.map_cons, List.map_nil]); first | done | rfl | (simp only [List.length_drop, List.length_take]; rfl)) ?_; (with_reducible refine (marchlandlaw09_To.calls k _ _ y221 t225 _ ?side1 ?side2 A5.out).mono ?_); (case side1 => repeat (first | exact HR224.out | (with_reducible refine Kd.C_alloc ?_ _) | (with_reducible refine Kd.C_drewN ?_ _) | (with_reducible refine Kd.C_drew ?_))); (case side2 => exact HC224.out); rintro e w12 ⟨v226, rfl, ho0, hb⟩; refine ⟨_, rfl, ?_⟩; have n0_ := Aside0.mk (Kd.R_lower ho0 (below_size (by repeat (first | (with_reducible first | exact HB.out | apply below_alloc | apply pw_below_drewN | apply below_drew1) | exact HB.out)))); have n1_ := Aside0.mk (below_step (by repeat (first | (with_reducible first | exact HB.out | apply below_alloc | apply pw_below_drewN | apply below_drew1) | exact HB.out)) hb); clear HB; have HO227 := n0_; have HB := n1_; clear n0_ n1_; (try clear hb); (try clear hb2); (try clear hk); (try clear hi); (try clear ho0); obtain ⟨Ao13, co13, eo13⟩ := Kd.R_slice HO227.out; subst eo13) | ((with_reducible refine gate_callee (f := 28) rfl ?_); refine goesL_ (some 15) rfl rfl Try.func28 (by kernel_rfl) rfl #[.slice Ao13 t225.length co13] rfl (by (try simp only [List.map_toArray, List.map_cons, List.map_nil]); first | done | rfl | (simp only [List.length_drop, List.length_take]; rfl)) ?_; (with_reducible refine (clock_Race.calls _ _ t225 t228 t229 _ ?side1 ?side2 A6.out).mono ?_); (case side1 => repeat (first | exact (Kd.R_reads' HO227.out).2.2 | (with_reducible refine Kd.C_alloc ?_ _) | (with_reducible refine Kd.C_drewN ?_ _) | (with_reducible refine Kd.C_drew ?_))); (case side2 => exact (Kd.R_reads' HO227.out).2.1); rintro e w14 ⟨rfl, hb⟩; refine ⟨_, rfl, ?_⟩; have n0_ := Aside0.mk (Kd.R_below (by (with_reducible repeat (first | apply Kd.R_alloc | apply Kd.R_drewN | apply Kd.R_drew)); exact HO227.out) hb); have n1_ := Aside0.mk (below_step (by repeat (first | (with_reducible first | exact HB.out | apply below_alloc | apply pw_below_drewN | apply below_drew1) | exact HB.out)) hb); clear HO227; clear HB; have HO227 := n0_; have HB := n1_; clear n0_ n1_; (try clear hb); (try clear hb2); (try clear hk); (try clear hi)) | ((with_reducible refine gate_callee (f := 29) rfl ?_); refine goesL_ (some 20) rfl rfl Try.func29 (by kernel_rfl) rfl #[.slice A0 y221.length c0] rfl (by (try simp only [List.map_toArray, List.map_cons, List.map_nil]); first | done | rfl | (simp only [List.length_drop, List.length_take]; rfl)) ?_; (with_reducible refine (marchlandref09_Race.calls k _ _ y221 t230 t231 _ ?side1 ?side2 A7.out).mono ?_); (case side1 => repeat (first | exact (Kd.C_below HR224.out HB.out) | (with_reducible refine Kd.C_alloc ?_ _) | (with_reducible refine Kd.C_drewN ?_ _) | (with_reducible refine Kd.C_drew ?_))); (case side2 => exact HC224.out); rintro e w15 ⟨rfl, hb⟩; refine ⟨_, rfl, ?_⟩; have n0_ := Aside0.mk (Kd.R_below (by (with_reducible repeat (first | apply Kd.R_alloc | apply Kd.R_drewN | apply Kd.R_drew)); exact HO227.out) hb); have n1_ := Aside0.mk (below_step (by repeat (first | (with_reducible first | exact HB.out | apply below_alloc | apply pw_below_drewN | apply below_drew1) | exact HB.out)) hb); clear HO227; clear HB; have HO227 := n0_; have HB := n1_; clear n0_ n1_; (try clear hb); (try clear hb2); (try clear hk); (try clear hi)) | ((with_reducible refine gate_callee (f := 26) rfl ?_); refine goesL_ (some 23) rfl rfl Try.func26 (by kernel_rfl) rfl #[] rfl (by (try simp only [List.map_toArray, List.map_cons, List.map_nil]); first | done | rfl | (simp only [List.length_drop, List.length_take]; rfl)) ?_; (with_reducible refine (marchlandlaw09_told.calls  true _ A8.out).mono ?_); rintro e w16 ⟨rfl, hb⟩; refine ⟨_, rfl, ?_⟩; have n0_ := Aside0.mk (Kd.R_below (by (with_reducible repeat (first | apply Kd.R_alloc | apply Kd.R_drewN | apply Kd.R_drew)); exact HO227.out) hb); have n1_ := Aside0.mk (below_step (by repeat (first | (with_reducible first | exact HB.out | apply below_alloc | apply pw_below_drewN | apply below_drew1) | exact HB.out)) hb); clear HO227; clear HB; have HO227 := n0_; have HB := n1_; clear n0_ n1_; (try clear hb); (try clear hb2); (try clear hk); (try clear hi)))
          go_ret
          exact ⟨by first | rfl | (simp [errW_none, errW_some] <;> rfl) | (simp only [← hji2]; first | rfl | (simp [errW_none, errW_some] <;> rfl)) | (simp [*, errW_none, errW_some] <;> rfl), by repeat (first | (with_reducible first | exact HB.out | apply below_alloc | apply pw_below_drewN | apply below_drew1) | exact HB.out)⟩
        · rw [if_neg c10] at H
          have c10b0 : (t228 == t230) = false := beq_eq_false_iff_ne.mpr c10
          have c10b1 : (t228 != t230) = true := bne_iff_ne.mpr c10
          obtain rfl := Option.some.inj H
          have q17 : ((ji2) : Int) ≤ ((l0.length : Int) : Int) := of_decide_eq_true (by first | (with_reducible assumption) | assumption)
          obtain ⟨i017, hi017, _, hsz17, _⟩ := info_parts info127
          have hroom17 : l0.length ≤ c0 := HC0.out
          have hC17 : Kd.C k127 _ A0 l0.length l0 := HR0.out
          have hcut17 := cut_to (P := Try.prog) 32 127 .i64 Try.underlying32 hi017 A0 l0.length c0 (ji2) (of_decide_eq_true (by first | (with_reducible assumption) | assumption)) q17 hroom17
          have hr17 := Kd.C_take (m := ((ji2) : Int).toNat) hC17 (by omega)
          have hy17 : y221.length = ((ji2) : Int).toNat := (by rw [Ny221.out, List.length_take]; omega)
          rw [← Ny221.out] at hr17
          rw [← hy17] at hcut17
          have HR224 := Aside0.mk hr17
          have HC224 := Aside0.mk (show y221.length ≤ c0 from by omega)
          clear hr17 hC17 hroom17 hi017 hsz17
          have KY17 := Aside0.mk hy17
          clear hy17
          replace q17 := eq_true q17
          go_enter Try.func6, Try.ntmps6
          go_wp2_with (first | ((with_reducible refine gate_callee (f := 24) rfl ?_); refine goesL_ (some 14) rfl rfl Try.func24 (by kernel_rfl) rfl #[.slice A0 y221.length c0] rfl (by (try simp only [List.map_toArray, List.map_cons, List.map_nil]); first | done | rfl | (simp only [List.length_drop, List.length_take]; rfl)) ?_; (with_reducible refine (marchlandlaw09_To.calls k _ _ y221 t225 _ ?side1 ?side2 A5.out).mono ?_); (case side1 => repeat (first | exact HR224.out | (with_reducible refine Kd.C_alloc ?_ _) | (with_reducible refine Kd.C_drewN ?_ _) | (with_reducible refine Kd.C_drew ?_))); (case side2 => exact HC224.out); rintro e w18 ⟨v226, rfl, ho0, hb⟩; refine ⟨_, rfl, ?_⟩; have n0_ := Aside0.mk (Kd.R_lower ho0 (below_size (by repeat (first | (with_reducible first | exact HB.out | apply below_alloc | apply pw_below_drewN | apply below_drew1) | exact HB.out)))); have n1_ := Aside0.mk (below_step (by repeat (first | (with_reducible first | exact HB.out | apply below_alloc | apply pw_below_drewN | apply below_drew1) | exact HB.out)) hb); clear HB; have HO227 := n0_; have HB := n1_; clear n0_ n1_; (try clear hb); (try clear hb2); (try clear hk); (try clear hi); (try clear ho0); obtain ⟨Ao19, co19, eo19⟩ := Kd.R_slice HO227.out; subst eo19) | ((with_reducible refine gate_callee (f := 28) rfl ?_); refine goesL_ (some 15) rfl rfl Try.func28 (by kernel_rfl) rfl #[.slice Ao19 t225.length co19] rfl (by (try simp only [List.map_toArray, List.map_cons, List.map_nil]); first | done | rfl | (simp only [List.length_drop, List.length_take]; rfl)) ?_; (with_reducible refine (clock_Race.calls _ _ t225 t228 t229 _ ?side1 ?side2 A6.out).mono ?_); (case side1 => repeat (first | exact (Kd.R_reads' HO227.out).2.2 | (with_reducible refine Kd.C_alloc ?_ _) | (with_reducible refine Kd.C_drewN ?_ _) | (with_reducible refine Kd.C_drew ?_))); (case side2 => exact (Kd.R_reads' HO227.out).2.1); rintro e w20 ⟨rfl, hb⟩; refine ⟨_, rfl, ?_⟩; have n0_ := Aside0.mk (Kd.R_below (by (with_reducible repeat (first | apply Kd.R_alloc | apply Kd.R_drewN | apply Kd.R_drew)); exact HO227.out) hb); have n1_ := Aside0.mk (below_step (by repeat (first | (with_reducible first | exact HB.out | apply below_alloc | apply pw_below_drewN | apply below_drew1) | exact HB.out)) hb); clear HO227; clear HB; have HO227 := n0_; have HB := n1_; clear n0_ n1_; (try clear hb); (try clear hb2); (try clear hk); (try clear hi)) | ((with_reducible refine gate_callee (f := 29) rfl ?_); refine goesL_ (some 20) rfl rfl Try.func29 (by kernel_rfl) rfl #[.slice A0 y221.length c0] rfl (by (try simp only [List.map_toArray, List.map_cons, List.map_nil]); first | done | rfl | (simp only [List.length_drop, List.length_take]; rfl)) ?_; (with_reducible refine (marchlandref09_Race.calls k _ _ y221 t230 t231 _ ?side1 ?side2 A7.out).mono ?_); (case side1 => repeat (first | exact (Kd.C_below HR224.out HB.out) | (with_reducible refine Kd.C_alloc ?_ _) | (with_reducible refine Kd.C_drewN ?_ _) | (with_reducible refine Kd.C_drew ?_))); (case side2 => exact HC224.out); rintro e w21 ⟨rfl, hb⟩; refine ⟨_, rfl, ?_⟩; have n0_ := Aside0.mk (Kd.R_below (by (with_reducible repeat (first | apply Kd.R_alloc | apply Kd.R_drewN | apply Kd.R_drew)); exact HO227.out) hb); have n1_ := Aside0.mk (below_step (by repeat (first | (with_reducible first | exact HB.out | apply below_alloc | apply pw_below_drewN | apply below_drew1) | exact HB.out)) hb); clear HO227; clear HB; have HO227 := n0_; have HB := n1_; clear n0_ n1_; (try clear hb); (try clear hb2); (try clear hk); (try clear hi)) | ((with_reducible refine gate_callee (f := 26) rfl ?_); refine goesL_ (some 23) rfl rfl Try.func26 (by kernel_rfl) rfl #[] rfl (by (try simp only [List.map_toArray, List.map_cons, List.map_nil]); first | done | rfl | (simp only [List.length_drop, List.length_take]; rfl)) ?_; (with_reducible refine (marchlandlaw09_told.calls  true _ A8.out).mono ?_); rintro e w22 ⟨rfl, hb⟩; refine ⟨_, rfl, ?_⟩; have n0_ := Aside0.mk (Kd.R_below (by (with_reducible repeat (first | apply Kd.R_alloc | apply Kd.R_drewN | apply Kd.R_drew)); exact HO227.out) hb); have n1_ := Aside0.mk (below_step (by repeat (first | (with_reducible first | exact HB.out | apply below_alloc | apply pw_below_drewN | apply below_drew1) | exact HB.out)) hb); clear HO227; clear HB; have HO227 := n0_; have HB := n1_; clear n0_ n1_; (try clear hb); (try clear hb2); (try clear hk); (try clear hi)))
          go_ret
          exact ⟨by first | rfl | (simp [errW_none, errW_some] <;> rfl) | (simp only [← hji2]; first | rfl | (simp [errW_none, errW_some] <;> rfl)) | (simp [*, errW_none, errW_some] <;> rfl), by repeat (first | (with_reducible first | exact HB.out | apply below_alloc | apply pw_below_drewN | apply below_drew1) | exact HB.out)⟩
      · replace c9 := Bool.eq_false_iff.mpr c9
        subst c9
        have H1 : (some false) = some r := by rw [if_neg (show ¬ (false = true) by decide)] at H; exact H
        clear H
        have H := H1
        clear H1
        obtain rfl := Option.some.inj H
        have q23 : ((ji2) : Int) ≤ ((l0.length : Int) : Int) := of_decide_eq_true (by first | (with_reducible assumption) | assumption)
        obtain ⟨i023, hi023, _, hsz23, _⟩ := info_parts info127
        have hroom23 : l0.length ≤ c0 := HC0.out
        have hC23 : Kd.C k127 _ A0 l0.length l0 := HR0.out
        have hcut23 := cut_to (P := Try.prog) 32 127 .i64 Try.underlying32 hi023 A0 l0.length c0 (ji2) (of_decide_eq_true (by first | (with_reducible assumption) | assumption)) q23 hroom23
        have hr23 := Kd.C_take (m := ((ji2) : Int).toNat) hC23 (by omega)
        have hy23 : y221.length = ((ji2) : Int).toNat := (by rw [Ny221.out, List.length_take]; omega)
        rw [← Ny221.out] at hr23
        rw [← hy23] at hcut23
        have HR224 := Aside0.mk hr23
        have HC224 := Aside0.mk (show y221.length ≤ c0 from by omega)
        clear hr23 hC23 hroom23 hi023 hsz23
        have KY23 := Aside0.mk hy23
        clear hy23
        replace q23 := eq_true q23
        go_enter Try.func6, Try.ntmps6
        go_wp2_with (first | ((with_reducible refine gate_callee (f := 24) rfl ?_); refine goesL_ (some 14) rfl rfl Try.func24 (by kernel_rfl) rfl #[.slice A0 y221.length c0] rfl (by (try simp only [List.map_toArray, List.map_cons, List.map_nil]); first | done | rfl | (simp only [List.length_drop, List.length_take]; rfl)) ?_; (with_reducible refine (marchlandlaw09_To.calls k _ _ y221 t225 _ ?side1 ?side2 A5.out).mono ?_); (case side1 => repeat (first | exact HR224.out | (with_reducible refine Kd.C_alloc ?_ _) | (with_reducible refine Kd.C_drewN ?_ _) | (with_reducible refine Kd.C_drew ?_))); (case side2 => exact HC224.out); rintro e w24 ⟨v226, rfl, ho0, hb⟩; refine ⟨_, rfl, ?_⟩; have n0_ := Aside0.mk (Kd.R_lower ho0 (below_size (by repeat (first | (with_reducible first | exact HB.out | apply below_alloc | apply pw_below_drewN | apply below_drew1) | exact HB.out)))); have n1_ := Aside0.mk (below_step (by repeat (first | (with_reducible first | exact HB.out | apply below_alloc | apply pw_below_drewN | apply below_drew1) | exact HB.out)) hb); clear HB; have HO227 := n0_; have HB := n1_; clear n0_ n1_; (try clear hb); (try clear hb2); (try clear hk); (try clear hi); (try clear ho0); obtain ⟨Ao25, co25, eo25⟩ := Kd.R_slice HO227.out; subst eo25) | ((with_reducible refine gate_callee (f := 28) rfl ?_); refine goesL_ (some 15) rfl rfl Try.func28 (by kernel_rfl) rfl #[.slice Ao25 t225.length co25] rfl (by (try simp only [List.map_toArray, List.map_cons, List.map_nil]); first | done | rfl | (simp only [List.length_drop, List.length_take]; rfl)) ?_; (with_reducible refine (clock_Race.calls _ _ t225 t228 t229 _ ?side1 ?side2 A6.out).mono ?_); (case side1 => repeat (first | exact (Kd.R_reads' HO227.out).2.2 | (with_reducible refine Kd.C_alloc ?_ _) | (with_reducible refine Kd.C_drewN ?_ _) | (with_reducible refine Kd.C_drew ?_))); (case side2 => exact (Kd.R_reads' HO227.out).2.1); rintro e w26 ⟨rfl, hb⟩; refine ⟨_, rfl, ?_⟩; have n0_ := Aside0.mk (Kd.R_below (by (with_reducible repeat (first | apply Kd.R_alloc | apply Kd.R_drewN | apply Kd.R_drew)); exact HO227.out) hb); have n1_ := Aside0.mk (below_step (by repeat (first | (with_reducible first | exact HB.out | apply below_alloc | apply pw_below_drewN | apply below_drew1) | exact HB.out)) hb); clear HO227; clear HB; have HO227 := n0_; have HB := n1_; clear n0_ n1_; (try clear hb); (try clear hb2); (try clear hk); (try clear hi)) | ((with_reducible refine gate_callee (f := 29) rfl ?_); refine goesL_ (some 20) rfl rfl Try.func29 (by kernel_rfl) rfl #[.slice A0 y221.length c0] rfl (by (try simp only [List.map_toArray, List.map_cons, List.map_nil]); first | done | rfl | (simp only [List.length_drop, List.length_take]; rfl)) ?_; (with_reducible refine (marchlandref09_Race.calls k _ _ y221 t230 t231 _ ?side1 ?side2 A7.out).mono ?_); (case side1 => repeat (first | exact (Kd.C_below HR224.out HB.out) | (with_reducible refine Kd.C_alloc ?_ _) | (with_reducible refine Kd.C_drewN ?_ _) | (with_reducible refine Kd.C_drew ?_))); (case side2 => exact HC224.out); rintro e w27 ⟨rfl, hb⟩; refine ⟨_, rfl, ?_⟩; have n0_ := Aside0.mk (Kd.R_below (by (with_reducible repeat (first | apply Kd.R_alloc | apply Kd.R_drewN | apply Kd.R_drew)); exact HO227.out) hb); have n1_ := Aside0.mk (below_step (by repeat (first | (with_reducible first | exact HB.out | apply below_alloc | apply pw_below_drewN | apply below_drew1) | exact HB.out)) hb); clear HO227; clear HB; have HO227 := n0_; have HB := n1_; clear n0_ n1_; (try clear hb); (try clear hb2); (try clear hk); (try clear hi)) | ((with_reducible refine gate_callee (f := 26) rfl ?_); refine goesL_ (some 23) rfl rfl Try.func26 (by kernel_rfl) rfl #[] rfl (by (try simp only [List.map_toArray, List.map_cons, List.map_nil]); first | done | rfl | (simp only [List.length_drop, List.length_take]; rfl)) ?_; (with_reducible refine (marchlandlaw09_told.calls  false _ A8.out).mono ?_); rintro e w28 ⟨rfl, hb⟩; refine ⟨_, rfl, ?_⟩; have n0_ := Aside0.mk (Kd.R_below (by (with_reducible repeat (first | apply Kd.R_alloc | apply Kd.R_drewN | apply Kd.R_drew)); exact HO227.out) hb); have n1_ := Aside0.mk (below_step (by repeat (first | (with_reducible first | exact HB.out | apply below_alloc | apply pw_below_drewN | apply below_drew1) | exact HB.out)) hb); clear HO227; clear HB; have HO227 := n0_; have HB := n1_; clear n0_ n1_; (try clear hb); (try clear hb2); (try clear hk); (try clear hi)))
        go_ret
        exact ⟨by first | rfl | (simp [errW_none, errW_some] <;> rfl) | (simp only [← hji2]; first | rfl | (simp [errW_none, errW_some] <;> rfl)) | (simp [*, errW_none, errW_some] <;> rfl), by repeat (first | (with_reducible first | exact HB.out | apply below_alloc | apply pw_below_drewN | apply below_drew1) | exact HB.out)⟩
    · rw [if_neg c4] at H
      exact absurd H (by simp)
  · rw [if_neg c3] at H
    exact absurd H (by simp)
end Go.Proofs.Ytlcnckbmolefpaa.P
end
section
/- law09.To, ref09.step, ref09.Ahead: what they answer: which events happen before which (HClockA). -/
namespace Go.Proofs.Ytlcnckbmolefpaa.Pure
open Go.RowKit Go.Proofs.Ytlcnckbmolefpaa.P Go.Proofs.Ytlcnckbmolefpaa.CK Go.Proofs.YtlcnckbmolefpaaW.PrintWords Go.Proofs.YtlcnckbmolefpaaW.PrintLast Go.Proofs.YtlcnckbmolefpaaW.PrintMore
set_option linter.unusedVariables false
set_option linter.unusedSimpArgs false
theorem Ev.s {α : Type} {F G : Nat → Option α} {r : α} (h : ∀ k, F (k + 1) = G k) (g : Ev G r) : Ev F r := by
  obtain ⟨K, g⟩ := g
  refine ⟨K + 1, fun k hk => ?_⟩
  obtain ⟨k, rfl⟩ : ∃ m, k = m + 1 := ⟨k - 1, by omega⟩
  rw [h]; exact g k (by omega)
theorem Ev.o {α : Type} {F : Nat → Option α} {r : α} (h : ∀ k, F (k + 1) = some r) : Ev F r := by
  refine ⟨1, fun k hk => ?_⟩
  obtain ⟨k, rfl⟩ : ∃ m, k = m + 1 := ⟨k - 1, by omega⟩
  exact h k
theorem w64n {x : Int} (h : -1000000 ≤ x) (h2 : x ≤ 1000000) : wrap64 x = x := by unfold wrap64; omega
def Ls {α : Type} (n : Nat) (g : Nat → α) : List α := (List.range n).map g
theorem ls_len {α : Type} (n : Nat) (g : Nat → α) : (Ls n g).length = n := by simp [Ls]
theorem ls_get {α : Type} (n : Nat) (g : Nat → α) (d : α) {i : Nat} (h : i < n) : (Ls n g).getD i d = g i := by
  rw [List.getD_eq_getElem?_getD, List.getElem?_eq_getElem (by rw [ls_len]; exact h)]; simp [Ls]
theorem ls_congr {α : Type} {n : Nat} {f g : Nat → α} (h : ∀ i, i < n → f i = g i) : Ls n f = Ls n g := by
  apply List.map_congr_left; intro i hi; exact h i (List.mem_range.1 hi)
theorem ls_set {α : Type} (n : Nat) (g : Nat → α) (i : Nat) (x : α) : (Ls n g).set i x = Ls n (fun a => if a = i then x else g a) := by
  apply List.ext_getElem?
  intro a
  rw [List.getElem?_set]
  by_cases c : i = a
  · subst c
    by_cases h : i < n
    · rw [if_pos rfl, if_pos (by rw [ls_len]; exact h), List.getElem?_eq_getElem (by rw [ls_len]; exact h)]; simp [Ls]
    · rw [if_pos rfl, if_neg (by rw [ls_len]; exact h), List.getElem?_eq_none (by rw [ls_len]; omega)]
  · rw [if_neg c]
    by_cases h : a < n
    · rw [List.getElem?_eq_getElem (by rw [ls_len]; exact h), List.getElem?_eq_getElem (by rw [ls_len]; exact h)]
      simp [Ls]
      intro q; exact absurd q.symm c
    · rw [List.getElem?_eq_none (by rw [ls_len]; omega), List.getElem?_eq_none (by rw [ls_len]; omega)]
theorem ls_rep {α : Type} (n : Nat) (x : α) : List.replicate n x = Ls n (fun _ => x) := by
  apply List.ext_getElem <;> simp [Ls]
theorem ls_snoc {α : Type} (n : Nat) (g : Nat → α) : Ls n g ++ [g n] = Ls (n + 1) g := by simp [Ls, List.range_succ]
theorem ls_rdB (n : Nat) (g : Nat → Bool) {i : Nat} (h : i < n) : rdOf false (Ls n g) (i : Int) = g i := by unfold rdOf; rw [Int.toNat_natCast, ls_get n g false h]
theorem ls_rdL (n : Nat) (g : Nat → List Bool) {i : Nat} (h : i < n) : rd_L5 (Ls n g) (i : Int) = g i := by unfold rd_L5; rw [Int.toNat_natCast, ls_get n g [] h]
def c8 (x : S127) : S128 := ⟨x.f0, x.f1, x.f2, x.f3⟩
theorem rd127 (p : List S127) (x : S127) (q : List S127) {i : Int} (h : i = p.length) : rd_T127 (p ++ x :: q) i = x := by subst h; simp [rd_T127]
theorem to9_l0 {l : List S127} (hl : l.length ≤ 1000) : ∀ (rest pre : List S127), l = pre ++ rest → Ev (fun k => marchlandlaw09_To.l0 k l (pre.map c8) (pre.length : Int)) (l.map c8)
  | [], pre, h => by
    refine Ev.o (fun k => ?_)
    rw [marchlandlaw09_To.l0, if_neg (by rw [h]; simp), h]; simp
  | x :: rest, pre, h => by
    refine Ev.s (fun k => ?_) (to9_l0 hl rest (pre ++ [x]) (by rw [h]; simp))
    have e : l.length = pre.length + (rest.length + 1) := by rw [h]; simp
    show marchlandlaw09_To.l0 (k + 1) _ _ _ = _
    rw [marchlandlaw09_To.l0, if_pos (by omega), if_pos (by omega), if_pos (by rw [List.length_map]; omega), w64n (by omega) (by omega)]
    have e2 : rd_T127 l (pre.length : Int) = x := by rw [h]; exact rd127 pre x rest rfl
    rw [e2, List.map_append, List.length_append]
    rfl
theorem to9_ev {l : List S127} (hl : l.length ≤ 1000) : Ev (fun k => marchlandlaw09_To.f k l) (l.map c8) := to9_l0 hl l [] rfl
/-- the events, by their places -/
def G (l : List S127) : Nat → CK.Ev := gl (l.map c8)
def ev7 (x : S127) : CK.Ev := ⟨x.f0, x.f1, x.f2, x.f3⟩
theorem G_at {l : List S127} {i : Nat} (h : i < l.length) : G l i = ev7 (rd_T127 l (i : Int)) := by
  unfold G gl rd_T127
  rw [Int.toNat_natCast, List.getD_eq_getElem?_getD, List.getElem?_map, List.getD_eq_getElem?_getD, List.getElem?_eq_getElem h]
  rfl
open Classical in
noncomputable def stB (g : Nat → CK.Ev) (i j : Nat) : Bool := decide (stp g i j)
open Classical in
noncomputable def hbB (g : Nat → CK.Ev) (i j : Nat) : Bool := decide (hb g i j)
open Classical in
theorem stB_t {g : Nat → CK.Ev} {i j : Nat} : stB g i j = true ↔ stp g i j := by unfold stB; exact decide_eq_true_iff
open Classical in
theorem hbB_t {g : Nat → CK.Ev} {i j : Nat} : hbB g i j = true ↔ hb g i j := by unfold hbB; exact decide_eq_true_iff
theorem stB_of {g : Nat → CK.Ev} {i j : Nat} {b : Bool} (h : b = true ↔ stp g i j) : stB g i j = b := by
  rw [Bool.eq_iff_iff, stB_t, h]
section
variable {l : List S127} {i j : Nat}
/-- is there none that lays the word anew between? -/
theorem step_l0 (hl : l.length ≤ 1000) (hj : j < l.length) (a0 a1 a2 : Int) (a3 : Bool) : ∀ d m : Nat, m + d = j → Ev (fun k => marchlandref09_step.l0 k l (j : Int) (m : Int) a0 a1 a2 a3) (!(List.range' m d).any fun k => decide (stores (G l k)) && decide ((G l k).at_ = a2))
  | 0, m, h => by
    refine Ev.o (fun k => ?_)
    rw [marchlandref09_step.l0, if_neg (by omega)]; rfl
  | d + 1, m, h => by
    have hm : m < l.length := by omega
    have ih := step_l0 hl hj a0 a1 a2 a3 d (m + 1) (by omega)
    by_cases c : (rd_T127 l (m : Int)).f1 = 1
    · by_cases c2 : (rd_T127 l (m : Int)).f2 = a2
      · refine Ev.o (fun k => ?_)
        rw [marchlandref09_step.l0, if_pos (by omega), if_pos (by omega), if_pos (by omega), if_pos c, if_pos c2, List.range'_succ, List.any_cons, G_at hm]
        simp [ev7, stores, c, c2]
      · refine Ev.s (fun k => ?_) (Ev.congr (fun _ => rfl) ih |> fun q => by
          rw [show (!(List.range' m (d + 1)).any fun k => decide (stores (G l k)) && decide ((G l k).at_ = a2)) = (!(List.range' (m + 1) d).any fun k => decide (stores (G l k)) && decide ((G l k).at_ = a2)) by
            rw [List.range'_succ, List.any_cons, G_at hm]; simp [ev7, c2]]
          exact q)
        show marchlandref09_step.l0 (k + 1) _ _ _ _ _ _ _ = _
        rw [marchlandref09_step.l0, if_pos (by omega), if_pos (by omega), if_pos (by omega), if_pos c, if_neg c2, w64n (by omega) (by omega)]; rfl
    · refine Ev.s (fun k => ?_) (Ev.congr (fun _ => rfl) ih |> fun q => by
          rw [show (!(List.range' m (d + 1)).any fun k => decide (stores (G l k)) && decide ((G l k).at_ = a2)) = (!(List.range' (m + 1) d).any fun k => decide (stores (G l k)) && decide ((G l k).at_ = a2)) by
            rw [List.range'_succ, List.any_cons, G_at hm]; simp [ev7, stores, c]]
          exact q)
      show marchlandref09_step.l0 (k + 1) _ _ _ _ _ _ _ = _
      rw [marchlandref09_step.l0, if_pos (by omega), if_pos (by omega), if_pos (by omega), if_neg c, w64n (by omega) (by omega)]; rfl
theorem none_between (h : i < j) (a : Int) : ((!(List.range' (i + 1) (j - (i + 1))).any fun k => decide (stores (G l k)) && decide ((G l k).at_ = a)) = true) ↔ ∀ k, i < k → k < j → ¬ (stores (G l k) ∧ (G l k).at_ = a) := by
  rw [Bool.not_eq_true', List.any_eq_false]
  constructor
  · intro q k h1 h2 h3
    have := q k (by rw [List.mem_range'_1]; omega)
    simp [h3.1, h3.2] at this
  · intro q k hk
    rw [List.mem_range'_1] at hk
    have := q k (by omega) (by omega)
    simp only [Bool.and_eq_true, decide_eq_true_iff]
    exact this
theorem step_ev (hl : l.length ≤ 1000) (hij : i < j) (hj : j < l.length) : Ev (fun k => marchlandref09_step.f k l (i : Int) (j : Int)) (stB (G l) i j) := by
  have hi : i < l.length := by omega
  have gi := G_at hi
  have gj := G_at hj
  have e0 : ∀ k, marchlandref09_step.f k l (i : Int) (j : Int) = marchlandref09_step.j0 k l (i : Int) (j : Int) (!(decide (valid (G l i)) && decide (valid (G l j)))) ((rd_T127 l i).f0) ((rd_T127 l i).f1) ((rd_T127 l i).f2) ((rd_T127 l i).f3) ((rd_T127 l j).f0) ((rd_T127 l j).f1) ((rd_T127 l j).f2) ((rd_T127 l j).f3) := by
    intro k
    have vi : valid (G l i) ↔ 0 ≤ (rd_T127 l i).f1 ∧ (rd_T127 l i).f1 ≤ 7 := by rw [gi]; exact Iff.rfl
    have vj : valid (G l j) ↔ 0 ≤ (rd_T127 l j).f1 ∧ (rd_T127 l j).f1 ≤ 7 := by rw [gj]; exact Iff.rfl
    unfold marchlandref09_step.f
    rw [if_pos (by omega), if_pos (by omega), if_pos (by omega), if_pos (by omega)]
    by_cases c1 : (rd_T127 l i).f1 < 0
    · rw [if_pos c1, decide_eq_false (show ¬ valid (G l i) by rw [vi]; omega)]; rfl
    · rw [if_neg c1]
      by_cases c2 : (rd_T127 l i).f1 > 7
      · rw [if_pos c2, decide_eq_false (show ¬ valid (G l i) by rw [vi]; omega)]; rfl
      · rw [if_neg c2, decide_eq_true (show valid (G l i) by rw [vi]; omega)]
        by_cases c3 : (rd_T127 l j).f1 < 0
        · rw [if_pos c3, decide_eq_false (show ¬ valid (G l j) by rw [vj]; omega)]; rfl
        · rw [if_neg c3]
          by_cases c4 : (rd_T127 l j).f1 > 7
          · rw [decide_eq_true c4, decide_eq_false (show ¬ valid (G l j) by rw [vj]; omega)]; rfl
          · rw [decide_eq_false c4, decide_eq_true (show valid (G l j) by rw [vj]; omega)]; rfl
  refine Ev.congr e0 ?_
  by_cases hv : valid (G l i) ∧ valid (G l j)
  · rw [decide_eq_true hv.1, decide_eq_true hv.2]
    have wi : (G l i).who = (rd_T127 l i).f0 := by rw [gi]; rfl
    have wj : (G l j).who = (rd_T127 l j).f0 := by rw [gj]; rfl
    have ai : (G l i).at_ = (rd_T127 l i).f2 := by rw [gi]; rfl
    have aj : (G l j).at_ = (rd_T127 l j).f2 := by rw [gj]; rfl
    have ki : (G l i).kind = (rd_T127 l i).f1 := by rw [gi]; rfl
    have kj : (G l j).kind = (rd_T127 l j).f1 := by rw [gj]; rfl
    have oi : (G l i).ok = (rd_T127 l i).f3 := by rw [gi]; rfl
    have oj : (G l j).ok = (rd_T127 l j).f3 := by rw [gj]; rfl
    by_cases cw : (rd_T127 l i).f0 = (rd_T127 l j).f0
    · rw [stB_of (b := true) ⟨fun _ => ⟨hij, hv.1, hv.2, Or.inl (by rw [wi, wj]; exact cw)⟩, fun _ => rfl⟩]
      refine Ev.o (fun k => ?_)
      rw [marchlandref09_step.j0, if_neg (by simp), if_pos cw]
    · by_cases ca : (rd_T127 l i).f2 = (rd_T127 l j).f2
      · have key : ∀ b : Bool, (b = true ↔ ((stores (G l i) ∧ (G l j).kind = 0 ∧ ∀ k, i < k → k < j → ¬ (stores (G l k) ∧ (G l k).at_ = (G l i).at_)) ∨ (frees (G l i) ∧ (G l j).kind = 4 ∧ (G l j).ok = true))) → stB (G l) i j = b := fun b hb => stB_of (hb.trans ⟨fun q => ⟨hij, hv.1, hv.2, Or.inr ⟨by rw [ai, aj]; exact ca, q⟩⟩, fun q => q.2.2.2.elim (fun q => absurd (by rw [← wi, ← wj]; exact q) cw) (fun q => q.2)⟩)
        by_cases c10 : (rd_T127 l i).f1 = 1 ∧ (rd_T127 l j).f1 = 0
        · rw [key (!(List.range' (i + 1) (j - (i + 1))).any fun k => decide (stores (G l k)) && decide ((G l k).at_ = (rd_T127 l i).f2)) (by
            rw [none_between hij]
            constructor
            · intro q; exact Or.inl ⟨by show (G l i).kind = 1; rw [ki]; exact c10.1, by rw [kj]; exact c10.2, by rw [ai]; exact q⟩
            · rintro (q | q)
              · rw [← ai]; exact q.2.2
              · have := q.2.1; rw [kj, c10.2] at this; omega)]
          refine Ev.s (G := fun k => marchlandref09_step.j1 k l (i : Int) (j : Int) true ((rd_T127 l i).f0) ((rd_T127 l i).f1) ((rd_T127 l i).f2) ((rd_T127 l i).f3) ((rd_T127 l j).f0) ((rd_T127 l j).f1) ((rd_T127 l j).f2) ((rd_T127 l j).f3)) (fun k => ?_) (Ev.s (fun k => ?_) (step_l0 hl hj ((rd_T127 l i).f0) ((rd_T127 l i).f1) ((rd_T127 l i).f2) ((rd_T127 l i).f3) (j - (i + 1)) (i + 1) (by omega)))
          · show marchlandref09_step.j0 (k + 1) _ _ _ _ _ _ _ _ _ _ _ _ = _
            rw [marchlandref09_step.j0, if_neg (by simp), if_neg cw, if_pos ca, if_pos c10.1, c10.2]; rfl
          · show marchlandref09_step.j1 (k + 1) _ _ _ _ _ _ _ _ _ _ _ _ = _
            rw [marchlandref09_step.j1, if_pos rfl, w64n (by omega) (by omega)]; rfl
        · have kb : ((((rd_T127 l i).f1 == 5 || (rd_T127 l i).f1 == 6) && (rd_T127 l i).f3 && ((rd_T127 l j).f1 == 4) && (rd_T127 l j).f3) = true) ↔ ((stores (G l i) ∧ (G l j).kind = 0 ∧ ∀ k, i < k → k < j → ¬ (stores (G l k) ∧ (G l k).at_ = (G l i).at_)) ∨ (frees (G l i) ∧ (G l j).kind = 4 ∧ (G l j).ok = true)) := by
            unfold frees
            rw [ki, kj, oi, oj]
            simp only [Bool.and_eq_true, Bool.or_eq_true, beq_iff_eq]
            constructor
            · intro q; exact Or.inr ⟨⟨q.1.1.1, q.1.1.2⟩, q.1.2, q.2⟩
            · rintro (q | q)
              · exact absurd ⟨by rw [← ki]; exact q.1, q.2.1⟩ c10
              · exact ⟨⟨⟨q.1.1, q.1.2⟩, q.2.1⟩, q.2.2⟩
          rw [key _ kb]
          refine Ev.s (G := fun k => marchlandref09_step.j1 k l (i : Int) (j : Int) false ((rd_T127 l i).f0) ((rd_T127 l i).f1) ((rd_T127 l i).f2) ((rd_T127 l i).f3) ((rd_T127 l j).f0) ((rd_T127 l j).f1) ((rd_T127 l j).f2) ((rd_T127 l j).f3)) (fun k => ?_) (Ev.o (fun k => ?_))
          · show marchlandref09_step.j0 (k + 1) _ _ _ _ _ _ _ _ _ _ _ _ = _
            rw [marchlandref09_step.j0, if_neg (by simp), if_neg cw, if_pos ca]
            by_cases c1 : (rd_T127 l i).f1 = 1
            · rw [if_pos c1]
              have : ((rd_T127 l j).f1 == 0) = false := by
                cases h : ((rd_T127 l j).f1 == 0)
                · rfl
                · exact absurd ⟨c1, by simpa using h⟩ c10
              rw [this]
            · rw [if_neg c1]
          · rw [marchlandref09_step.j1, if_neg (by simp)]
            by_cases c5 : (rd_T127 l i).f1 = 5
            · rw [if_pos c5, c5]
              cases (rd_T127 l i).f3 <;> by_cases c4 : (rd_T127 l j).f1 = 4 <;> simp [c4]
            · rw [if_neg c5]
              by_cases c6 : (rd_T127 l i).f1 = 6
              · rw [if_pos c6, c6]
                cases (rd_T127 l i).f3 <;> by_cases c4 : (rd_T127 l j).f1 = 4 <;> simp [c4]
              · rw [if_neg c6]
                simp [c5, c6]
      · rw [stB_of (b := false) ⟨fun q => (by cases q), fun q => q.2.2.2.elim (fun q => absurd (by rw [← wi, ← wj]; exact q) cw) (fun q => absurd (by rw [← ai, ← aj]; exact q.1) ca)⟩]
        refine Ev.o (fun k => ?_)
        rw [marchlandref09_step.j0, if_neg (by simp), if_neg cw, if_neg ca]
  · rw [stB_of (b := false) ⟨fun q => (by cases q), fun q => absurd ⟨q.2.1, q.2.2.1⟩ hv⟩]
    refine Ev.o (fun k => ?_)
    have : (!(decide (valid (G l i)) && decide (valid (G l j)))) = true := by
      by_cases h1 : valid (G l i)
      · by_cases h2 : valid (G l j)
        · exact absurd ⟨h1, h2⟩ hv
        · rw [decide_eq_false h2]; simp
      · rw [decide_eq_false h1]; simp
    rw [marchlandref09_step.j0, if_pos this]
end
noncomputable def AR (l : List S127) (j : Nat) : List Bool := Ls l.length fun i => hbB (G l) i j
noncomputable def AX (l : List S127) (j : Nat) : List (List Bool) := Ls j (AR l)
noncomputable def mix (l : List S127) (ρ : Nat → Bool) (i t : Nat) : Nat → Bool := fun b => decide (b < t) && hbB (G l) b i || ρ b
section
variable {l : List S127} {i j : Nat}
theorem ahead_l2 (hl : l.length ≤ 1000) (hij : i < j) (hj : j < l.length) (ρ : Nat → Bool) (R : List (List Bool)) (h : Ev (fun k => marchlandref09_Ahead.l1 k l (AX l j) (j : Int) (Ls l.length (mix l ρ i i)) ((i : Int) - 1)) R) :
    ∀ d t : Nat, t + d = i → Ev (fun k => marchlandref09_Ahead.l2 k l (AX l j) (j : Int) (Ls l.length (mix l ρ i t)) (i : Int) (t : Int)) R
  | 0, t, ht => by
    obtain rfl : t = i := by omega
    refine Ev.s (fun k => ?_) h
    rw [marchlandref09_Ahead.l2, if_neg (by omega), w64n (by omega) (by omega)]
  | d + 1, t, ht => by
    refine Ev.s (fun k => ?_) (ahead_l2 hl hij hj ρ R h d (t + 1) (by omega))
    have e1 : mix l ρ i t t = ρ t := by unfold mix; simp
    have e2 : rd_L5 (AX l j) (i : Int) = AR l i := ls_rdL j (AR l) hij
    have e3 : rdOf false (AR l i) (t : Int) = hbB (G l) t i := ls_rdB _ _ (by omega)
    have e4 : ∀ b : Bool, b = (hbB (G l) t i || ρ t) → (Ls l.length (mix l ρ i t)).set t b = Ls l.length (mix l ρ i (t + 1)) := fun b hb => by
      rw [ls_set]
      refine ls_congr fun a ha => ?_
      by_cases c : a = t
      · rw [if_pos c, c, hb]; unfold mix; simp
      · rw [if_neg c]; unfold mix
        by_cases c2 : a < t
        · rw [decide_eq_true c2, decide_eq_true (show a < t + 1 by omega)]
        · rw [decide_eq_false c2, decide_eq_false (show ¬ a < t + 1 by omega)]
    show marchlandref09_Ahead.l2 (k + 1) _ _ _ _ _ _ = _
    rw [marchlandref09_Ahead.l2, if_pos (by omega), if_pos (by omega), ls_len, if_pos (by omega), ls_rdB _ _ (by omega), e1]
    by_cases c : ρ t = true
    · rw [if_pos c, Int.toNat_natCast, e4 true (by rw [c]; simp), w64n (by omega) (by omega)]; rfl
    · rw [if_neg c, if_pos (by omega), if_pos (by unfold AX; rw [ls_len]; omega), e2, if_pos (by unfold AR; rw [ls_len]; omega), Int.toNat_natCast, e3, e4 _ (by rw [show ρ t = false by simpa using c]; simp), w64n (by omega) (by omega)]; rfl
structure AInv (l : List S127) (j c : Nat) (ρ : Nat → Bool) : Prop where
  a : ∀ b, ρ b = true → hb (G l) b j
  b : ∀ b, c ≤ b → stp (G l) b j → ρ b = true
  cl : ∀ b, ρ b = true → ∀ a, hb (G l) a b → ρ a = true
theorem AInv.done {ρ : Nat → Bool} (h : AInv l j 0 ρ) : Ls l.length ρ = AR l j := by
  refine ls_congr fun b _ => ?_
  rw [Bool.eq_iff_iff, hbB_t]
  refine ⟨h.a b, fun q => ?_⟩
  obtain ⟨k, hk, q⟩ := hb_last.1 q
  have := h.b k (Nat.zero_le _) hk
  rcases q with rfl | q
  · exact this
  · exact h.cl k this b q
theorem AInv.skip {ρ : Nat → Bool} (h : AInv l j (i + 1) ρ) (hi : ρ i = true ∨ ¬ stp (G l) i j) : AInv l j i ρ := by
  refine ⟨h.a, fun b hb hs => ?_, h.cl⟩
  by_cases c : b = i
  · subst c; rcases hi with hi | hi
    · exact hi
    · exact absurd hs hi
  · exact h.b b (by omega) hs
theorem AInv.take {ρ : Nat → Bool} (h : AInv l j (i + 1) ρ) (hs : stp (G l) i j) : AInv l j i (mix l (fun b => if b = i then true else ρ b) i i) := by
  have key : ∀ b, mix l (fun b => if b = i then true else ρ b) i i b = true ↔ (b < i ∧ hb (G l) b i) ∨ b = i ∨ ρ b = true := fun b => by
    unfold mix
    rw [Bool.or_eq_true, Bool.and_eq_true, decide_eq_true_iff, hbB_t]
    by_cases c : b = i <;> simp [c]
  refine ⟨fun b hb' => ?_, fun b hb' hst => ?_, fun b hb' a ha => ?_⟩
  · rcases (key b).1 hb' with q | q | q
    · exact .more q.2 hs
    · subst q; exact .one hs
    · exact h.a b q
  · rw [key]
    by_cases c : b = i
    · exact Or.inr (Or.inl c)
    · exact Or.inr (Or.inr (h.b b (by omega) hst))
  · rw [key]
    rcases (key b).1 hb' with q | q | q
    · have t := hb_trans ha q.2
      exact Or.inl ⟨hb_lt t, t⟩
    · subst q; exact Or.inl ⟨hb_lt ha, ha⟩
    · exact Or.inr (Or.inr (h.cl b q a ha))
theorem ahead_l1 (hl : l.length ≤ 1000) (hj : j < l.length) (R : List (List Bool)) (h : Ev (fun k => marchlandref09_Ahead.l0 k l (AX l (j + 1)) ((j + 1 : Nat) : Int)) R) :
    ∀ (c : Nat) (ρ : Nat → Bool), c ≤ j → AInv l j c ρ → Ev (fun k => marchlandref09_Ahead.l1 k l (AX l j) (j : Int) (Ls l.length ρ) ((c : Int) - 1)) R
  | 0, ρ, _, hI => by
    refine Ev.s (fun k => ?_) h
    rw [marchlandref09_Ahead.l1, if_neg (by omega), if_pos (by unfold AX; rw [ls_len]; omega), hI.done, w64n (by omega) (by omega)]
    have : AX l j ++ [AR l j] = AX l (j + 1) := ls_snoc j (AR l)
    rw [this]; rfl
  | i + 1, ρ, hc, hI => by
    have hi : i < l.length := by omega
    have e0 : ((i + 1 : Nat) : Int) - 1 = (i : Int) := by omega
    by_cases c1 : ρ i = true
    · have ih := ahead_l1 hl hj R h i ρ (by omega) (hI.skip (Or.inl c1))
      refine Ev.s (G := fun k => marchlandref09_Ahead.j2 k l (AX l j) (j : Int) (Ls l.length ρ) (i : Int) true) (fun k => ?_) (Ev.s (fun k => ?_) ih)
      · rw [e0, marchlandref09_Ahead.l1, if_pos (by omega), if_pos (by omega), ls_len, if_pos (by omega), ls_rdB _ _ hi, if_pos c1]
      · rw [marchlandref09_Ahead.j2, if_pos rfl, w64n (by omega) (by omega)]
    · have st := step_ev hl (show i < j by omega) hj
      by_cases c2 : stp (G l) i j
      · have ih := ahead_l1 hl hj R h i _ (by omega) (hI.take c2)
        have l2 := ahead_l2 hl (show i < j by omega) hj _ R ih i 0 (by omega)
        rw [stB_t.2 c2] at st
        have e5 : (Ls l.length ρ).set i true = Ls l.length (mix l (fun b => if b = i then true else ρ b) i 0) := by
          rw [ls_set]; refine ls_congr fun a _ => ?_; unfold mix; simp
        refine Ev.s (G := fun k => (marchlandref09_step.f k l (i : Int) (j : Int)).bind fun t172 => marchlandref09_Ahead.j2 k l (AX l j) (j : Int) (Ls l.length ρ) (i : Int) (!t172)) (fun k => ?_) (Ev.bind st (Ev.s (fun k => ?_) l2))
        · rw [e0, marchlandref09_Ahead.l1, if_pos (by omega), if_pos (by omega), ls_len, if_pos (by omega), ls_rdB _ _ hi, if_neg c1]
        · rw [marchlandref09_Ahead.j2, if_neg (by simp), if_pos (by omega), ls_len, if_pos (by omega), Int.toNat_natCast, e5]; rfl
      · have ih := ahead_l1 hl hj R h i ρ (by omega) (hI.skip (Or.inr c2))
        rw [stB_of (b := false) ⟨fun q => (by cases q), fun q => absurd q c2⟩] at st
        refine Ev.s (G := fun k => (marchlandref09_step.f k l (i : Int) (j : Int)).bind fun t172 => marchlandref09_Ahead.j2 k l (AX l j) (j : Int) (Ls l.length ρ) (i : Int) (!t172)) (fun k => ?_) (Ev.bind st (Ev.s (fun k => ?_) ih))
        · rw [e0, marchlandref09_Ahead.l1, if_pos (by omega), if_pos (by omega), ls_len, if_pos (by omega), ls_rdB _ _ hi, if_neg c1]
        · rw [marchlandref09_Ahead.j2, if_pos (show (!false) = true from rfl), w64n (by omega) (by omega)]
theorem ahead_l0 (hl : l.length ≤ 1000) : ∀ d j : Nat, j + d = l.length → Ev (fun k => marchlandref09_Ahead.l0 k l (AX l j) (j : Int)) (AX l l.length)
  | 0, j, h => by
    obtain rfl : j = l.length := by omega
    refine Ev.o (fun k => ?_)
    rw [marchlandref09_Ahead.l0, if_neg (by omega)]
  | d + 1, j, h => by
    have hj : j < l.length := by omega
    have ih := ahead_l1 hl hj _ (ahead_l0 hl d (j + 1) (by omega)) j (fun _ => false) (Nat.le_refl _) ⟨fun b q => (by cases q), fun b q s => absurd s.1 (by omega), fun b q => (by cases q)⟩
    refine Ev.s (fun k => ?_) ih
    rw [marchlandref09_Ahead.l0, if_pos (by omega), if_pos (by omega), if_pos (by omega), Int.toNat_natCast, ls_rep, w64n (by omega) (by omega)]
theorem ahead_ev (hl : l.length ≤ 1000) : Ev (fun k => marchlandref09_Ahead.f k l) (AX l l.length) := ahead_l0 hl l.length 0 (by omega)
/-- what Ahead says of two -/
theorem ax_at {a b : Nat} (ha : a < l.length) (hb' : b < l.length) : rd_L5 (AX l l.length) (b : Int) = AR l b ∧ rdOf false (AR l b) (a : Int) = hbB (G l) a b := ⟨ls_rdL _ _ hb', ls_rdB _ _ ha⟩
theorem ax_len : (AX l l.length).length = l.length := ls_len _ _
theorem ar_len {b : Nat} : (AR l b).length = l.length := ls_len _ _
end
end Go.Proofs.Ytlcnckbmolefpaa.Pure
end
section
namespace Go.Proofs.Ytlcnckbmolefpaa.P
open Go.RowKit Go.Proofs.YtlcnckbmolefpaaW.PrintWords Go.Proofs.YtlcnckbmolefpaaW.PrintLast Go.Proofs.YtlcnckbmolefpaaW.PrintMore
set_option linter.unusedVariables false
set_option linter.unusedSimpArgs false
open Go.ChangeShapes Go.WideShapes Go.Deep
/-- Whatever reads at type t is told by the kind d, and is so as q says. -/
def Opens (P : Program) (t : TypeId) {α : Type} (d : Kd α) (q : α → Prop) : Prop :=
  ∀ (H : Type) (enc : TypeId × Value → H) (w : World) (base : Nat) (spare : Nat → Bool) (held : Bool) (fuel : Nat) (cs : List Value) (x : DataW H × List MemPlace),
    DataW.trod enc P w base spare held fuel t cs = some x → ∃ y : α, d.K w y cs ∧ q y
theorem Opens.int {P : Program} {t : TypeId} {k : IntKind} (hu : P.underlying t = some (.int k)) : Opens P t (Kd.int k) (fun n => (Lit.int k n).wf = true) := by
  intro H enc w base spare held fuel cs x h
  obtain ⟨n, rfl, _, hw⟩ := DataW.trod_int hu h
  exact ⟨n, rfl, hw⟩
theorem Opens.bool {P : Program} {t : TypeId} (hu : P.underlying t = some .bool) : Opens P t Kd.bool (fun _ => True) := by
  intro H enc w base spare held fuel cs x h
  obtain ⟨b, rfl, _⟩ := DataW.trod_bool hu h
  exact ⟨b, rfl, trivial⟩
theorem Opens.imp {P : Program} {t : TypeId} {α : Type} {d : Kd α} {q q' : α → Prop} (h : Opens P t d q) (hq : ∀ y, q y → q' y) : Opens P t d q' := by
  intro H enc w base spare held fuel cs x hx
  obtain ⟨y, h1, h2⟩ := h H enc w base spare held fuel cs x hx
  exact ⟨y, h1, hq y h2⟩
theorem Opens.iso {P : Program} {t : TypeId} {α β : Type} {d : Kd α} {q : α → Prop} (h : Opens P t d q) (f : β → α) (g : α → β) (hfg : ∀ y, f (g y) = y) : Opens P t (Kd.iso d f) (fun x => q (f x)) := by
  intro H enc w base spare held fuel cs x hx
  obtain ⟨y, h1, h2⟩ := h H enc w base spare held fuel cs x hx
  refine ⟨g y, ?_, by show q (f (g y)); rw [hfg]; exact h2⟩
  show d.K w (f (g y)) cs
  rw [hfg]; exact h1
theorem Opens.slice {P : Program} {t e : TypeId} {α : Type} [Inhabited α] {d : Kd α} {q : α → Prop} (hu : P.underlying t = some (.slice e)) (hc : P.cellsOf e = d.sz) (h : Opens P e d q) : Opens P t (Kd.slice e d) (fun l => l.length ≤ maxLen ∧ ∀ y ∈ l, q y) := by
  intro H enc w base spare held fuel cs x hx
  rcases open_slice hu hx with ⟨rfl, _⟩ | ⟨a, len, cap, m, n, D, Pl, rfl, hb, hl, hm, hmm, _, hel⟩
  · exact ⟨[], ⟨none, 0, rfl, Nat.le_refl _, rfl, Nat.zero_le _, fun h => absurd h (by simp)⟩, Nat.zero_le _, fun y hy => by simp at hy⟩
  · have hlm : len ≤ m := by rw [hmm]; split <;> omega
    obtain ⟨Y, hY⟩ := choose_lt (α := α) (n := len) (p := fun i y => ∃ cs', w.cells? base (a.add (i * P.cellsOf e)) (P.cellsOf e) = some cs' ∧ d.K w y cs' ∧ q y) (fun i hi => by
      obtain ⟨cs', h1, h2⟩ := hel i (by omega)
      obtain ⟨y, h3, h4⟩ := h H enc w base spare held n cs' _ h2
      exact ⟨y, cs', h1, h3, h4⟩)
    have hlen : ((List.range len).map Y).length = len := by simp
    refine ⟨(List.range len).map Y, ⟨some a, cap, by rw [hlen], by rw [hlen]; exact hl, rfl, ?_, fun _ => ⟨a, rfl, fun j p hj => ?_⟩⟩, ?_, fun y hy => ?_⟩
    · rw [hlen]; unfold maxLen at hm; omega
    · obtain ⟨hjl, hje⟩ := List.getElem?_eq_some_iff.1 hj
      rw [hlen] at hjl
      have hpj : p = Y j := by rw [← hje]; simp
      obtain ⟨cs', h1, h3, _⟩ := hY j hjl
      obtain ⟨_, hcl, hcc⟩ := World.cells?_some h1
      refine ⟨cs', d.K_len h3, by rw [hpj]; exact h3, fun i u hu2 => ?_⟩
      have hi := (List.getElem?_eq_some_iff.1 hu2).1
      rw [d.K_len h3] at hi
      have h5 := hcc i (by rw [hc]; exact hi)
      rw [hc, Go.Deep.add_add] at h5
      rw [h5, ← hu2]
    · rw [hlen]; omega
    · obtain ⟨j, hj, rfl⟩ := List.mem_map.1 hy
      obtain ⟨_, _, _, h4⟩ := hY j (List.mem_range.1 hj)
      exact h4
/-- Fields, one behind the other, from a place on. -/
def OpensSeg (P : Program) (fs : List Field) (off : Nat) {α : Type} (d : Kd α) (q : α → Prop) : Prop :=
  ∀ (H : Type) (enc : TypeId × Value → H) (w : World) (base : Nat) (spare : Nat → Bool) (held : Bool) (fuel : Nat) (cs : List Value), cs.length = d.sz →
    (∀ f ∈ fs, ∃ x : DataW H × List MemPlace, DataW.trod enc P w base spare held fuel f.type ((cs.drop (f.offset - off)).take (P.cellsOf f.type)) = some x) → ∃ y : α, d.K w y cs ∧ q y
theorem OpensSeg.one {P : Program} {f : Field} {off : Nat} {α : Type} {d : Kd α} {q : α → Prop} (ho : f.offset = off) (hc : P.cellsOf f.type = d.sz) (h : Opens P f.type d q) : OpensSeg P [f] off d q := by
  intro H enc w base spare held fuel cs hl hf
  obtain ⟨x, hx⟩ := hf f List.mem_cons_self
  rw [ho, Nat.sub_self, List.drop_zero, hc, ← hl, List.take_length] at hx
  exact h H enc w base spare held fuel cs x hx
theorem OpensSeg.cons {P : Program} {f : Field} {fs : List Field} {off : Nat} {α β : Type} {d : Kd α} {d2 : Kd β} {q : α → Prop} {q2 : β → Prop} (ho : f.offset = off) (hc : P.cellsOf f.type = d.sz) (hm : ∀ g ∈ fs, off + d.sz ≤ g.offset) (h : Opens P f.type d q) (h2 : OpensSeg P fs (off + d.sz) d2 q2) :
    OpensSeg P (f :: fs) off (Kd.pair d d2) (fun y => q y.1 ∧ q2 y.2) := by
  intro H enc w base spare held fuel cs hl hf
  have hl' : cs.length = d.sz + d2.sz := hl
  obtain ⟨x, hx⟩ := hf f List.mem_cons_self
  rw [ho, Nat.sub_self, List.drop_zero, hc] at hx
  obtain ⟨y, h3, h4⟩ := h H enc w base spare held fuel _ x hx
  obtain ⟨y2, h5, h6⟩ := h2 H enc w base spare held fuel (cs.drop d.sz) (by rw [List.length_drop]; omega) (fun g hg => by
    obtain ⟨x2, hx2⟩ := hf g (List.mem_cons_of_mem _ hg)
    refine ⟨x2, ?_⟩
    have := hm g hg
    rw [List.drop_drop, show d.sz + (g.offset - (off + d.sz)) = g.offset - off by omega]
    exact hx2)
  exact ⟨(y, y2), ⟨cs.take d.sz, cs.drop d.sz, (List.take_append_drop _ _).symm, h3, h5⟩, h4, h6⟩
theorem Opens.struct {P : Program} {t : TypeId} {fs : Array Field} {α : Type} {d : Kd α} {q : α → Prop} (hu : P.underlying t = some (.struct fs)) (hc : P.cellsOf t = d.sz) (h : OpensSeg P fs.toList 0 d q) : Opens P t d q := by
  intro H enc w base spare held fuel cs x hx
  obtain ⟨xs, n, rfl, _, hl, hxs, hf⟩ := DataW.trod_struct hu hx
  refine h H enc w base spare held n cs (by rw [hl, hc]) (fun f hf2 => ?_)
  obtain ⟨i, hi, rfl⟩ := List.getElem_of_mem hf2
  have h1 := hf i fs.toList[i] (by rw [Array.getElem?_eq_getElem (by simpa using hi)]; simp)
  have hi2 : i < fs.size := by simpa using hi
  rw [List.getElem?_eq_getElem (by omega)] at h1
  exact ⟨_, by rw [Nat.sub_zero]; exact h1⟩
/-- An argument that is a slice: its value, its list, how long it may be. -/
theorem Opens.arg {P : Program} {t e : TypeId} {α : Type} {d : Kd α} {q : List α → Prop} (ho : Opens P t (Kd.slice e d) q) {H : Type} {enc : TypeId × Value → H} {w : World} {base : Nat} {spare : Nat → Bool} {held : Bool} {a : Option Addr} {len cap : Nat} {D : DataW H} {ps : List MemPlace} (h : DataW.Trod enc P w base spare held t (.slice a len cap) D ps) :
    ∃ l : List α, len = l.length ∧ Kd.C d w a l.length l ∧ l.length ≤ cap ∧ q l := by
  obtain ⟨fuel, hf⟩ := h
  obtain ⟨l, ⟨A, c, he, hlc, hC⟩, hq⟩ := ho H enc w base spare held fuel _ _ hf
  simp [Value.cells] at he
  obtain ⟨rfl, rfl, rfl⟩ := he
  exact ⟨l, rfl, hC, hlc, hq⟩
theorem sized_slice_any {H : Type} {enc : TypeId × Value → H} {P : Program} {W : World} {base : Nat} {spare : Nat → Bool} {held : Bool} {t e : TypeId} {a : Option Addr} {len cap : Nat} {d : DataW H} {ps : List MemPlace} {ts : List TypeId} {ds : List (DataW H)} {j : Nat}
    (hsz : (DataW.weightsEach P ts ds).all (· ≤ reachBytes) = true) (ht : ts[j]? = some t) (hd : ds[j]? = some d) (hu : P.underlying t = some (.slice e)) {B : Nat} (hB : P.bytesOf e = B)
    (h : DataW.Trod enc P W base spare held t (.slice a len cap) d ps) : len * B ≤ 140737488351232 := by
  obtain ⟨fuel, hf⟩ := h
  rcases open_slice hu hf with ⟨hcs, _⟩ | ⟨x, l, c, m, n, D, Pl, hcs, _, hl, _, hm, hx, _⟩
  · simp [Value.cells] at hcs
    obtain ⟨rfl, rfl, rfl⟩ := hcs
    simp
  · simp [Value.cells] at hcs
    obtain ⟨rfl, rfl, rfl⟩ := hcs
    obtain ⟨hx, _⟩ := Prod.mk.inj hx
    subst hx
    have z := sized_slice hsz ht hd hu
    rw [hB] at z
    have h1 : len ≤ ((List.range len).map D).length + ((List.range (m - len)).map fun j => D (len + j)).length := by simp
    exact Nat.le_trans (Nat.mul_le_mul_right _ h1) z
end Go.Proofs.Ytlcnckbmolefpaa.P
end
section
namespace Go.Proofs.Ytlcnckbmolefpaa.P
open Go.RowKit Go.Proofs.YtlcnckbmolefpaaW.PrintWords Go.Proofs.YtlcnckbmolefpaaW.PrintLast Go.Proofs.YtlcnckbmolefpaaW.PrintMore
set_option linter.unusedVariables false
set_option linter.unusedSimpArgs false
theorem opens_i64 {P : Program} {t : TypeId} (hu : P.underlying t = some (.int .i64)) : Opens P t (Kd.int .i64) (fun n => -9223372036854775808 ≤ n ∧ n ≤ 9223372036854775807) := (Opens.int hu).imp fun _ h => bounds_i64 h
def wfE (x : S127) : Prop := (-9223372036854775808 ≤ x.f0 ∧ x.f0 ≤ 9223372036854775807) ∧ (-9223372036854775808 ≤ x.f1 ∧ x.f1 ≤ 9223372036854775807) ∧ (-9223372036854775808 ≤ x.f2 ∧ x.f2 ≤ 9223372036854775807)
instance : Inhabited S127 := ⟨z127⟩
theorem opens_bool {P : Program} {t : TypeId} (hu : P.underlying t = some .bool) : Opens P t Kd.bool (fun _ => True) := (Opens.bool hu).imp fun _ _ => trivial
theorem opens127 : Opens Try.prog 127 k127 wfE :=
  (Opens.iso (Opens.struct (d := Kd.pair (Kd.int .i64) (Kd.pair (Kd.int .i64) (Kd.pair (Kd.int .i64) Kd.bool))) Try.underlying127 (by kernel_rfl)
    (OpensSeg.cons rfl (by kernel_rfl) (by decide) (opens_i64 Try.underlying3) (OpensSeg.cons rfl (by kernel_rfl) (by decide) (opens_i64 Try.underlying3) (OpensSeg.cons rfl (by kernel_rfl) (by decide) (opens_i64 Try.underlying3) (OpensSeg.one rfl (by kernel_rfl) (opens_bool Try.underlying4))))))
    (fun x : S127 => (x.f0, x.f1, x.f2, x.f3)) (fun y => ⟨y.1, y.2.1, y.2.2.1, y.2.2.2⟩) (fun _ => rfl)).imp fun _ h => ⟨h.1, h.2.1, h.2.2.1⟩
theorem opens32 : Opens Try.prog 32 (Kd.slice 127 k127) (fun l => l.length ≤ maxLen ∧ ∀ y ∈ l, wfE y) := Opens.slice Try.underlying32 (by kernel_rfl) opens127
end Go.Proofs.Ytlcnckbmolefpaa.P
end
section
/- ClockBefores: what the printed functions come to answers true. No condition. -/
namespace Go.Proofs.Ytlcnckbmolefpaa.Pure
open Go.RowKit Go.Proofs.Ytlcnckbmolefpaa.P Go.Proofs.Ytlcnckbmolefpaa.CK Go.Proofs.YtlcnckbmolefpaaW.PrintWords Go.Proofs.YtlcnckbmolefpaaW.PrintLast Go.Proofs.YtlcnckbmolefpaaW.PrintMore
set_option linter.unusedVariables false
set_option linter.unusedSimpArgs false
def Wf7 (l : List S127) : Prop := ∀ x ∈ l, (-9223372036854775808 ≤ x.f0 ∧ x.f0 ≤ 9223372036854775807) ∧ -9223372036854775808 ≤ x.f2 ∧ x.f2 ≤ 9223372036854775807
theorem told9 : marchlandlaw09_told.f = some true := by decide +kernel
section
variable {l : List S127}
end
end Go.Proofs.Ytlcnckbmolefpaa.Pure
end
section
/- ClockRaces: what the printed functions come to answers true. No condition. -/
namespace Go.Proofs.Ytlcnckbmolefpaa.Pure
open Go.RowKit Go.Proofs.Ytlcnckbmolefpaa.P Go.Proofs.Ytlcnckbmolefpaa.CK Go.Proofs.YtlcnckbmolefpaaW.PrintWords Go.Proofs.YtlcnckbmolefpaaW.PrintLast Go.Proofs.YtlcnckbmolefpaaW.PrintMore
set_option linter.unusedVariables false
set_option linter.unusedSimpArgs false
theorem find_congr {α : Type} {p q : α → Bool} : ∀ {l : List α}, (∀ x ∈ l, p x = q x) → l.find? p = l.find? q
  | [], _ => rfl
  | x :: l, h => by rw [List.find?_cons, List.find?_cons, h x List.mem_cons_self, find_congr fun y hy => h y (List.mem_cons_of_mem _ hy)]
theorem evs_ok {l : List S127} (hl : l.length ≤ 1000) (hw : Wf7 l) : evsB (l.map c8) = true := by
  unfold evsB
  rw [Bool.and_eq_true, decide_eq_true_iff, List.all_eq_true]
  refine ⟨by rw [List.length_map]; omega, fun e he => ?_⟩
  obtain ⟨x, hx, rfl⟩ := List.mem_map.1 he
  have := hw x hx
  unfold EvB c8
  simp only [Bool.and_eq_true, decide_eq_true_iff]
  exact ⟨⟨⟨this.1.1, this.1.2⟩, this.2.1⟩, this.2.2⟩
section
variable {l : List S127}
theorem meets_same {i j : Nat} (hij : i < j) (hj : j < l.length) : meets (G l) j i = meet7 l (AX l l.length) j i := by
  unfold meets meet7
  obtain ⟨r1, r2⟩ := ax_at (l := l) (show i < l.length by omega) hj
  rw [r1, r2, G_at hj, G_at (show i < l.length by omega)]
  have : bef (G l) i j = hbB (G l) i j := by rw [Bool.eq_iff_iff, hbB_t]; exact bef_iff hij
  rw [this]
  rfl
theorem race_same : ∀ d j : Nat, j + d = l.length → raceFrom (G l) j d = raceM (meet7 l (AX l l.length)) j d
  | 0, j, _ => rfl
  | d + 1, j, h => by
    have e : raceAt (G l) j = (List.range j).find? (meet7 l (AX l l.length) j) := find_congr fun i hi => meets_same (List.mem_range.1 hi) (by omega)
    cases q : raceAt (G l) j with
    | none => rw [race_none q, raceM_none (by rw [← e]; exact q)]; exact race_same d (j + 1) (by omega)
    | some i => rw [race_some q, raceM_some (by rw [← e]; exact q)]
theorem ref_race_ev (hl : l.length ≤ 1000) : Ev (fun k => marchlandref09_Race.f k l) (raceM (meet7 l (AX l l.length)) 0 l.length) := by
  have sq : sqB l.length (AX l l.length) = true := by
    unfold sqB
    rw [Bool.and_eq_true, decide_eq_true_iff, List.all_eq_true]
    refine ⟨ax_len, fun r hr => ?_⟩
    obtain ⟨j, hj, rfl⟩ := List.mem_map.1 hr
    exact decide_eq_true ar_len
  exact Ev.bind (ahead_ev hl) (Ev.congr (fun k => by rw [if_pos (by omega), if_pos sq]) (Ev.now _))
end
theorem ClockRaces_ev (l0 : List S127) (hw : Wf7 l0) : Ev (fun k => marchlandlaw09_ClockRaces.f k l0) true := by
  have hm : mn (l0.length : Int) 80 = ((min l0.length 80 : Nat) : Int) := by unfold mn; split <;> omega
  have hlen : (l0.take (min l0.length 80)).length = min l0.length 80 := by rw [List.length_take]; omega
  have hl : (l0.take (min l0.length 80)).length ≤ 1000 := by omega
  have hw2 : Wf7 (l0.take (min l0.length 80)) := fun x hx => hw x (List.mem_of_mem_take hx)
  have e0 : ∀ k, marchlandlaw09_ClockRaces.f k l0 = (marchlandlaw09_To.f k (l0.take (min l0.length 80))).bind fun t225 => (clock_Race.f t225).bind fun bt228 => (marchlandref09_Race.f k (l0.take (min l0.length 80))).bind fun bt230 => if true = true then (if bt228.1 = bt230.1 then (some (bt228.2 == bt230.2)) else (some false)) else (some false) := by
    intro k
    unfold marchlandlaw09_ClockRaces.f
    rw [hm, if_pos (by omega), if_pos (by omega), Int.toNat_natCast, told9]
    rfl
  refine Ev.congr e0 ?_
  generalize hL : l0.take (min l0.length 80) = l at *
  have eR : clock_Race.f (l.map c8) = some (raceM (meet7 l (AX l l.length)) 0 l.length) := by
    unfold clock_Race.f
    rw [if_pos (evs_ok hl hw2), List.length_map]
    exact congrArg some (race_same l.length 0 (by omega))
  refine Ev.bind (to9_ev hl) (Ev.congr (fun k => by rw [eR, Option.bind_some]) (Ev.bind (ref_race_ev hl) (Ev.congr (fun k => ?_) (Ev.now _))))
  rw [if_pos rfl, if_pos rfl]
  simp
theorem ClockRaces (l0 : List S127) (hq : ∀ y ∈ l0, wfE y) : ∃ k, marchlandlaw09_ClockRaces.f k l0 = some true :=
  (ClockRaces_ev l0 (fun x hx => ⟨(hq x hx).1, (hq x hx).2.2⟩)).rounds
end Go.Proofs.Ytlcnckbmolefpaa.Pure
end
