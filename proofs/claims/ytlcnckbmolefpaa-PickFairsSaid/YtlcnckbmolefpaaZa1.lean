/- Walks and laws of several statements of this seat, joined into one text; no condition. -/
import Derived.Test.YtlcnckbmolefpaaProg
import Derived.Below
import Derived.Deep.Draws
import Derived.Deep.AppendLies
import Derived.Maps.AppendAt
import Derived.OwnWalk
import Derived.Laws.BytesArg
import Derived.Laws.MakeOwn
import Derived.Laws.OwnMore
import Derived.Deep.OwnRows
import Derived.Tactics
import Derived.Lib.ConvBytes
import Derived.Laws.Slices
import Derived.WalkKit
import Derived.KernelRfl
import Derived.RowKit3
import Derived.Deep.LoopGhost
import Derived.Deep.QuietTactic
import Derived.BigQuiet
import Derived.WideLaws
import Derived.Deep.DeepCutAuto
import Derived.Deep.CutBlock
import Derived.Deep.RegionHeld3
import Derived.Laws.Rows
import Derived.Lib.AppendStr
import Derived.ArgAppend
import Derived.Laws.IdiomCopy
import Derived.OrdersHeld
import Derived.Laws.BitsLemmas
import Derived.RowKit
import Derived.Laws.StructEq
import Derived.Maps.RangeWalk
import Derived.Maps.Views
import Derived.IntWalk
import Derived.Test.YtlcnckbmolefpaaZa0
section
-- Printed by the session's own turn of the print (wip/tools/print2.sh): some callees are proved by hand.
namespace Go.Proofs.Ytlcnckbmolefpaa.P
open Go.RowKit Go.Proofs.YtlcnckbmolefpaaW.PrintWords Go.Proofs.YtlcnckbmolefpaaW.PrintLast Go.Proofs.YtlcnckbmolefpaaW.PrintMore
attribute [local go_sem] max2_int min2_int max_two min_two max_three min_three max_four min_four   -- for this text's walks alone
set_option linter.unusedVariables false
set_option linter.unusedSimpArgs false
def errW : Option Int → Value
  | none => .nilIface
  | some c => .iface 0 (.int .i64 c)
theorem errW_none : errW none = .nilIface := rfl
theorem errW_some (c : Int) : errW (some c) = .iface 0 (.int .i64 c) := rfl
theorem info3 : (Try.prog.info? 3).map (fun i => (i.zero, i.size, i.bytes)) = some (some (.int .i64 0), 1, 8) := by kernel_rfl
-- the values' own types
def rd_L1 (xs : List (List Int)) (i : Int) : (List Int) := xs.getD i.toNat ([] : List Int)
theorem at_L1 {w : World} {A : Option Addr} {n : Nat} {xs : List (List Int)} (h : Kd.C (Kd.slice 3 (Kd.int .i64)) w A n xs) (i : Int) (h0 : 0 ≤ i) (h1 : i < n) : ∃ ad A0 c0, A = some ad ∧ w.cell? (ad.add i.toNat) = some (.slice A0 (rd_L1 xs i).length c0) ∧ (rd_L1 xs i).length ≤ c0 ∧ (Kd.int .i64).C w A0 (rd_L1 xs i).length (rd_L1 xs i) := by
  obtain ⟨ad, c, e, _, hK, hc0⟩ := Kd.C_get h ([] : List Int) i h0 h1
  have hc : ∀ j u, c[j]? = some u → w.cell? (ad.add (i.toNat * 1 + j)) = some u := hc0
  obtain ⟨A0, c0, rfl, l0, g0⟩ := hK
  exact ⟨ad, A0, c0, e, by have hq := hc 0 _ rfl; rwa [Nat.mul_one, Nat.add_zero] at hq, l0, g0⟩
end Go.Proofs.Ytlcnckbmolefpaa.P
end
section
-- Printed by the session's own turn of the print (wip/tools/print2.sh): some callees are proved by hand.
namespace Go.Proofs.Ytlcnckbmolefpaa.P
open Go.RowKit Go.Proofs.YtlcnckbmolefpaaW.PrintWords Go.Proofs.YtlcnckbmolefpaaW.PrintLast Go.Proofs.YtlcnckbmolefpaaW.PrintMore
attribute [local go_sem] max2_int min2_int max_two min_two max_three min_three max_four min_four   -- for this text's walks alone
set_option linter.unusedVariables false
set_option linter.unusedSimpArgs false

/-! ### marchlandlaw10_Ints: function 19 -/
def marchlandlaw10_Ints.l0 : Nat → List Int → List Int → Int → Option (Bool)
  | 0, _, _, _ => none
  | k + 1, x0, x1, x5 => if x5 < (x0.length : Int) then (if 0 ≤ x5 then (if x5 < (x1.length : Int) then (if (rd x0 x5) = (rd x1 x5) then (marchlandlaw10_Ints.l0 k x0 x1 (wrap64 (x5 + 1))) else (some false)) else (none)) else (none)) else (some true)
def marchlandlaw10_Ints.f (k : Nat) (l0 : List Int) (l1 : List Int) : Option (Bool) := if (l0.length : Int) = (l1.length : Int) then (marchlandlaw10_Ints.l0 k l0 l1 0) else (some false)
theorem marchlandlaw10_Ints.mono_l : ∀ k, (∀ y0 y1 y2, LeO (marchlandlaw10_Ints.l0 k y0 y1 y2) (marchlandlaw10_Ints.l0 (k + 1) y0 y1 y2))
  | 0 => fun _ _ _ r h => by simp [marchlandlaw10_Ints.l0] at h
  | k + 1 => by
    have ih0 := marchlandlaw10_Ints.mono_l k
    · intro y0 y1 y2
      unfold marchlandlaw10_Ints.l0
      repeat' first
      | (with_reducible exact ih0 _ _ _)
      | (with_reducible exact LeO.refl _)
      | (with_reducible exact LeO.none _)
      | (with_reducible refine LeO.ite ?_ ?_)
      | (with_reducible refine LeO.bind ?_ (fun _ => ?_))
      | exact ih0 _ _ _
      | exact LeO.none _
      | refine LeO.ite ?_ ?_
      | refine LeO.bind ?_ (fun _ => ?_)
theorem marchlandlaw10_Ints.mono : ∀ a0 a1 k, LeO (marchlandlaw10_Ints.f k a0 a1) (marchlandlaw10_Ints.f (k + 1) a0 a1) := by
  intro a0 a1 k
  have ih0 := marchlandlaw10_Ints.mono_l k
  unfold marchlandlaw10_Ints.f
  repeat' first
      | (with_reducible exact ih0 _ _ _)
      | (with_reducible exact LeO.refl _)
      | (with_reducible exact LeO.none _)
      | (with_reducible refine LeO.ite ?_ ?_)
      | (with_reducible refine LeO.bind ?_ (fun _ => ?_))
      | exact ih0 _ _ _
      | exact LeO.none _
      | refine LeO.ite ?_ ?_
      | refine LeO.bind ?_ (fun _ => ?_)
set_option maxHeartbeats 8000000 in
set_option maxRecDepth 100000 in
theorem marchlandlaw10_Ints.calls (k : Nat) (A0 : Option Addr) (c0 : Nat) (l0 : List Int) (A1 : Option Addr) (c1 : Nat) (l1 : List Int) (r : Bool) (w : World) (hr0 : Kd.C (Kd.int .i64) w A0 l0.length l0) (hc0 : l0.length ≤ c0) (hr1 : Kd.C (Kd.int .i64) w A1 l1.length l1) (hc1 : l1.length ≤ c1) (h : marchlandlaw10_Ints.f k l0 l1 = some r) :
    Calls Try.prog 19 #[.slice A0 l0.length c0, .slice A1 l1.length c1] w fun e w' => e = .returned (.bool r) ∧ Drawn0 w w' := by
  have HR0 := Aside0.mk hr0
  have HC0 := Aside0.mk hc0
  clear hr0 hc0
  have HR1 := Aside0.mk hr1
  have HC1 := Aside0.mk hc1
  clear hr1 hc1
  have H : (if (l0.length : Int) = (l1.length : Int) then (marchlandlaw10_Ints.l0 k l0 l1 0) else (some false)) = some r := h
  clear h
  by_cases c3 : (l0.length : Int) = (l1.length : Int)
  · rw [if_pos c3] at H
    have c3b0 : ((l0.length : Int) == (l1.length : Int)) = true := beq_iff_eq.mpr c3
    have c3b1 : ((l0.length : Int) != (l1.length : Int)) = false := bne_eq_false_iff_eq.mpr c3
    have c3b2 : (l0.length == l1.length) = true := by first | simpa using c3 | (simp at c3 ⊢; omega)
    clear c3
    have H' := Aside0.mk H
    clear H
    go_enter Try.func19, Try.ntmps19
    go_wp2
    repeat (go_quiet (fail); try go_wp2)
    go_loopg [5] k (fun kq v5 w' => ∃ (x5_1 : Int), v5 = .int .i64 x5_1 ∧ Aside0 (marchlandlaw10_Ints.l0 kq l0 l1 x5_1 = some r) ∧ Aside0 (kq ≤ k) ∧ Drawn0 w w')
    case atStart => exact ⟨(0), (by first | rfl | (simp; done) | (simp [*]; done)), H', ⟨Nat.le_refl _⟩, by repeat (first | exact Drawn0.refl _ | apply Drawn0.step)⟩
    case round =>
      clear H'
      try clear c1
      try clear p2
      try clear c3
      try clear c3b0
      try clear c3b1
      try clear c3b2
      obtain ⟨x5_1, rfl, HA, HK1, ⟨m1, rfl⟩⟩ := hrel
      cases gk with
      | zero => exact absurd HA.out (by simp [marchlandlaw10_Ints.l0])
      | succ k1 =>
        have H := HA.out
        clear HA
        simp only [marchlandlaw10_Ints.l0] at H
        by_cases c4 : x5_1 < (l0.length : Int)
        · rw [if_pos c4] at H
          have c4b0 : decide (x5_1 < (l0.length : Int)) = true := decide_eq_true c4
          clear c4
          by_cases c5 : 0 ≤ x5_1
          · rw [if_pos c5] at H
            have c5b0 : decide (0 ≤ x5_1) = true := decide_eq_true c5
            clear c5
            by_cases c6 : x5_1 < (l1.length : Int)
            · rw [if_pos c6] at H
              have c6b0 : decide (x5_1 < (l1.length : Int)) = true := decide_eq_true c6
              clear c6
              by_cases c7 : (rd l0 x5_1) = (rd l1 x5_1)
              · rw [if_pos c7] at H
                have c7b0 : ((rd l0 x5_1) == (rd l1 x5_1)) = true := beq_iff_eq.mpr c7
                have c7b1 : ((rd l0 x5_1) != (rd l1 x5_1)) = false := bne_eq_false_iff_eq.mpr c7
                clear c7
                have H' := Aside0.mk H
                clear H
                have p101 : 0 ≤ (x5_1 : Int) := of_decide_eq_true (by first | (with_reducible assumption) | assumption)
                have q101 : x5_1 < (l0.length : Int) := of_decide_eq_true (by first | (with_reducible assumption) | assumption)
                obtain ⟨ad101, e101, hx101_0⟩ := Kd.at_int HR0.out x5_1 p101 q101
                cases e101
                replace p101 := eq_true p101
                replace q101 := eq_true q101
                have p102 : 0 ≤ (x5_1 : Int) := of_decide_eq_true (by first | (with_reducible assumption) | assumption)
                have q102 : x5_1 < (l1.length : Int) := of_decide_eq_true (by first | (with_reducible assumption) | assumption)
                obtain ⟨ad102, e102, hx102_0⟩ := Kd.at_int HR1.out x5_1 p102 q102
                cases e102
                replace p102 := eq_true p102
                replace q102 := eq_true q102
                go_wp2
                repeat (go_quiet (fail); try go_wp2)
                go_roundg k1
                case measure => have := HK1.out; omega
                case rel => exact ⟨(wrap64 (x5_1 + 1)), (by first | rfl | (simp; done) | (simp [*]; done)), H', ⟨by have := HK1.out; omega⟩, by repeat (first | exact Drawn0.refl _ | apply Drawn0.step)⟩
              · rw [if_neg c7] at H
                have c7b0 : ((rd l0 x5_1) == (rd l1 x5_1)) = false := beq_eq_false_iff_ne.mpr c7
                have c7b1 : ((rd l0 x5_1) != (rd l1 x5_1)) = true := bne_iff_ne.mpr c7
                obtain rfl := Option.some.inj H
                have p101 : 0 ≤ (x5_1 : Int) := of_decide_eq_true (by first | (with_reducible assumption) | assumption)
                have q101 : x5_1 < (l0.length : Int) := of_decide_eq_true (by first | (with_reducible assumption) | assumption)
                obtain ⟨ad101, e101, hx101_0⟩ := Kd.at_int HR0.out x5_1 p101 q101
                cases e101
                replace p101 := eq_true p101
                replace q101 := eq_true q101
                have p102 : 0 ≤ (x5_1 : Int) := of_decide_eq_true (by first | (with_reducible assumption) | assumption)
                have q102 : x5_1 < (l1.length : Int) := of_decide_eq_true (by first | (with_reducible assumption) | assumption)
                obtain ⟨ad102, e102, hx102_0⟩ := Kd.at_int HR1.out x5_1 p102 q102
                cases e102
                replace p102 := eq_true p102
                replace q102 := eq_true q102
                go_wp2
                repeat (go_quiet (fail); try go_wp2)
                go_ret
                exact ⟨by first | rfl | (simp; done) | (simp [*]; done), by repeat (first | exact Drawn0.refl _ | apply Drawn0.step)⟩
            · rw [if_neg c6] at H
              exact absurd H (by simp)
          · rw [if_neg c5] at H
            exact absurd H (by simp)
        · rw [if_neg c4] at H
          have c4b0 : decide (x5_1 < (l0.length : Int)) = false := decide_eq_false c4
          clear c4
          obtain rfl := Option.some.inj H
          go_wp2
          repeat (go_quiet (fail); try go_wp2)
          go_ret
          exact ⟨by first | rfl | (simp; done) | (simp [*]; done), by repeat (first | exact Drawn0.refl _ | apply Drawn0.step)⟩
  · rw [if_neg c3] at H
    have c3b0 : ((l0.length : Int) == (l1.length : Int)) = false := beq_eq_false_iff_ne.mpr c3
    have c3b1 : ((l0.length : Int) != (l1.length : Int)) = true := bne_iff_ne.mpr c3
    have c3b2 : (l0.length == l1.length) = false := by first | simpa using c3 | (simp at c3 ⊢; omega)
    obtain rfl := Option.some.inj H
    go_enter Try.func19, Try.ntmps19
    go_wp2
    repeat (go_quiet (fail); try go_wp2)
    go_ret
    exact ⟨by first | rfl | (simp; done) | (simp [*]; done), by repeat (first | exact Drawn0.refl _ | apply Drawn0.step)⟩

end Go.Proofs.Ytlcnckbmolefpaa.P
end
section
-- Printed by the session's own turn of the print (wip/tools/print2.sh): some callees are proved by hand.
namespace Go.Proofs.Ytlcnckbmolefpaa.P
open Go.RowKit Go.Proofs.YtlcnckbmolefpaaW.PrintWords Go.Proofs.YtlcnckbmolefpaaW.PrintLast Go.Proofs.YtlcnckbmolefpaaW.PrintMore
attribute [local go_sem] max2_int min2_int max_two min_two max_three min_three max_four min_four   -- for this text's walks alone
set_option linter.unusedVariables false
set_option linter.unusedSimpArgs false

/-! ### pick_Turns: function 20 -/
def pick_Turns.l0 : Nat → Int → Int → List Int → Int → Option (List Int)
  | 0, _, _, _, _ => none
  | k + 1, x0, x1, x5, x6 => if x0 > 0 then (if x6 < x1 then (if x0 = 0 then (none) else (if x5.length < 17592186044416 then (pick_Turns.l0 k x0 x1 (x5 ++ [Int.tmod x6 x0]) (wrap64 (x6 + 1))) else (none))) else (some x5)) else (some x5)
def pick_Turns.f (k : Nat) (a0 : Int) (a1 : Int) : Option (List Int) := pick_Turns.l0 k a0 a1 ([] : List Int) 0
theorem pick_Turns.mono_l : ∀ k, (∀ y0 y1 y2 y3, LeO (pick_Turns.l0 k y0 y1 y2 y3) (pick_Turns.l0 (k + 1) y0 y1 y2 y3))
  | 0 => fun _ _ _ _ r h => by simp [pick_Turns.l0] at h
  | k + 1 => by
    have ih0 := pick_Turns.mono_l k
    · intro y0 y1 y2 y3
      unfold pick_Turns.l0
      repeat' first
      | (with_reducible exact ih0 _ _ _ _)
      | (with_reducible exact LeO.refl _)
      | (with_reducible exact LeO.none _)
      | (with_reducible refine LeO.ite ?_ ?_)
      | (with_reducible refine LeO.bind ?_ (fun _ => ?_))
      | exact ih0 _ _ _ _
      | exact LeO.none _
      | refine LeO.ite ?_ ?_
      | refine LeO.bind ?_ (fun _ => ?_)
theorem pick_Turns.mono : ∀ a0 a1 k, LeO (pick_Turns.f k a0 a1) (pick_Turns.f (k + 1) a0 a1) := by
  intro a0 a1 k
  have ih0 := pick_Turns.mono_l k
  unfold pick_Turns.f
  repeat' first
      | (with_reducible exact ih0 _ _ _ _)
      | (with_reducible exact LeO.refl _)
      | (with_reducible exact LeO.none _)
      | (with_reducible refine LeO.ite ?_ ?_)
      | (with_reducible refine LeO.bind ?_ (fun _ => ?_))
      | exact ih0 _ _ _ _
      | exact LeO.none _
      | refine LeO.ite ?_ ?_
      | refine LeO.bind ?_ (fun _ => ?_)
set_option maxHeartbeats 8000000 in
set_option maxRecDepth 100000 in
theorem pick_Turns.calls (k : Nat) (a0 : Int) (a1 : Int) (r : List Int) (w : World) (h : pick_Turns.f k a0 a1 = some r) :
    Calls Try.prog 20 #[.int .i64 a0, .int .i64 a1] w fun e w' => ∃ v0_ : Value, e = .returned (v0_) ∧ Kd.R (Kd.int .i64) 3 w' w.heap.size (fun _ => True) v0_ r ∧ Below w.heap.size w w' := by
  have HB := Aside0.mk (Below.refl w.heap.size w)
  have H : (pick_Turns.l0 k a0 a1 ([] : List Int) 0) = some r := h
  clear h
  have H' := Aside0.mk H
  clear H
  go_enter Try.func20, Try.ntmps20
  go_wp2
  go_loopg [5, 6] k (fun kq v5 v6 w' => ∃ (x5_1 : List Int) (x6_1 : Int), v6 = .int .i64 x6_1 ∧ Aside0 (pick_Turns.l0 kq a0 a1 x5_1 x6_1 = some r) ∧ Aside0 (kq ≤ k) ∧ Aside0 (Kd.R (Kd.int .i64) 3 w' w.heap.size (fun _ => True) v5 x5_1) ∧ Aside0 (Below w.heap.size w w'))
  case atStart => exact ⟨(([] : List Int)), (0), (by first | rfl | (simp; done) | (simp [*]; done)), H', ⟨Nat.le_refl _⟩, ⟨by first | exact Kd.R_nil _ _ _ _ _ | exact Kd.N_nil _ _ _ _ _ | exact Kd.V_nil _ _ _ _ _ | exact Kd.Q_nil _ _ _ _ _ | exact Kd.S_nil _ _ _ _ _⟩, ⟨by repeat (first | (with_reducible first | exact HB.out | apply below_alloc | apply pw_below_drewN | apply below_drew1) | exact HB.out)⟩⟩
  case round =>
    clear H'
    try clear c2
    try clear p2
    obtain ⟨x5_1, x6_1, rfl, HA, HK1, HO_5, HB⟩ := hrel
    cases gk with
    | zero => exact absurd HA.out (by simp [pick_Turns.l0])
    | succ k1 =>
      have H := HA.out
      clear HA
      simp only [pick_Turns.l0] at H
      by_cases c3 : a0 > 0
      · rw [if_pos c3] at H
        have c3b0 : decide (0 < a0) = true := decide_eq_true c3
        clear c3
        by_cases c4 : x6_1 < a1
        · rw [if_pos c4] at H
          have c4b0 : decide (x6_1 < a1) = true := decide_eq_true c4
          clear c4
          by_cases c5 : a0 = 0
          · rw [if_pos c5] at H
            exact absurd H (by simp)
          · rw [if_neg c5] at H
            have c5b0 : (a0 == 0) = false := beq_eq_false_iff_ne.mpr c5
            have c5b1 : (a0 != 0) = true := bne_iff_ne.mpr c5
            by_cases c6 : x5_1.length < 17592186044416
            · rw [if_pos c6] at H
              have LMc6 := Aside0.mk c6
              clear c6
              obtain ⟨y103, hy103⟩ : ∃ y_ : List Int, y_ = (x5_1 ++ [Int.tmod x6_1 a0]) := ⟨_, rfl⟩
              replace H : (pick_Turns.l0 k1 a0 a1 y103 (wrap64 (x6_1 + 1))) = some r := by first | (rw [hy103]; with_reducible exact H) | (have H2_ := (Option.bind_some _ _).symm.trans H; rw [hy103]; with_reducible exact H2_) | (have H2_ := (Option.bind_some _ _).symm.trans H; with_reducible exact H2_) | with_reducible exact H | (rw [hy103]; exact H) | exact H
              have Ny103 := Aside0.mk hy103
              clear hy103
              have H' := Aside0.mk H
              clear H
              go_wp2_with (first | ((with_reducible refine gate_builtin (b := .append) (xs := #[.tmp 16, .tmp 20]) rfl ?_); at_builtin; refine Kd.R_append (Kd.int .i64) (w0 := w) w.heap.size rfl (.tmp 16) (.tmp 20) 25 3 (.int .i64 0) 8 rfl Try.underlying25 info3 rfl (by decide) (by omega) u5 x5_1 (Int.tmod x6_1 a0) [.int .i64 (Int.tmod x6_1 a0)] (fun _ => True) (fun _ => False) rfl rfl ?aP (fun _ hk => hk.elim) ?aF ?aO ?aB ?aS ?aL ?_; (case aP => exact rfl); (case aB => exact (by repeat (first | (with_reducible first | exact HB.out | apply below_alloc | apply pw_below_drewN | apply below_drew1) | exact HB.out))); (case aF => exact (fun _ _ => trivial)); (case aO => exact (by (with_reducible repeat (first | apply Kd.R_alloc | apply Kd.R_drewN | apply Kd.R_drew)); exact HO_5.out)); (case aS => exact (below_size (by repeat (first | (with_reducible first | exact HB.out | apply below_alloc | apply pw_below_drewN | apply below_drew1) | exact HB.out)))); (case aL => have := LMc6.out; omega); intro v104 w7 ho hb hg hat; rw [← Ny103.out] at ho; have n0_ := Aside0.mk (hb); have n1_ := Aside0.mk (ho); clear HB; clear HO_5; have HB := n0_; have HO105 := n1_; clear n0_ n1_; clear ho hb hg hat))
              go_roundg k1
              case measure => have := HK1.out; omega
              case rel => exact ⟨(y103), (wrap64 (x6_1 + 1)), (by first | rfl | (simp; done) | (simp [*]; done)), H', ⟨by have := HK1.out; omega⟩, ⟨by (with_reducible repeat (first | apply Kd.R_alloc | apply Kd.R_drewN | apply Kd.R_drew)); exact HO105.out⟩, ⟨by repeat (first | (with_reducible first | exact HB.out | apply below_alloc | apply pw_below_drewN | apply below_drew1) | exact HB.out)⟩⟩
            · rw [if_neg c6] at H
              exact absurd H (by simp)
        · rw [if_neg c4] at H
          have c4b0 : decide (x6_1 < a1) = false := decide_eq_false c4
          clear c4
          obtain rfl := Option.some.inj H
          go_wp2
          go_ret
          exact ⟨_, by first | rfl | (simp [errW_none, errW_some] <;> rfl) | (simp [*, errW_none, errW_some] <;> rfl), by (with_reducible repeat (first | apply Kd.R_alloc | apply Kd.R_drewN | apply Kd.R_drew)); exact HO_5.out, by repeat (first | (with_reducible first | exact HB.out | apply below_alloc | apply pw_below_drewN | apply below_drew1) | exact HB.out)⟩
      · rw [if_neg c3] at H
        have c3b0 : decide (0 < a0) = false := decide_eq_false c3
        clear c3
        obtain rfl := Option.some.inj H
        go_wp2
        go_ret
        exact ⟨_, by first | rfl | (simp [errW_none, errW_some] <;> rfl) | (simp [*, errW_none, errW_some] <;> rfl), by (with_reducible repeat (first | apply Kd.R_alloc | apply Kd.R_drewN | apply Kd.R_drew)); exact HO_5.out, by repeat (first | (with_reducible first | exact HB.out | apply below_alloc | apply pw_below_drewN | apply below_drew1) | exact HB.out)⟩

end Go.Proofs.Ytlcnckbmolefpaa.P
end
section
-- Printed by the session's own turn of the print (wip/tools/print2.sh): some callees are proved by hand.
namespace Go.Proofs.Ytlcnckbmolefpaa.P
open Go.RowKit Go.Proofs.YtlcnckbmolefpaaW.PrintWords Go.Proofs.YtlcnckbmolefpaaW.PrintLast Go.Proofs.YtlcnckbmolefpaaW.PrintMore
attribute [local go_sem] max2_int min2_int max_two min_two max_three min_three max_four min_four   -- for this text's walks alone
set_option linter.unusedVariables false
set_option linter.unusedSimpArgs false

/-! ### pick_Who: function 17 -/
def pick_Who.f (a0 : Int) (a1 : Int) : Option (Int) := if a1 < 1 then (some (-1)) else (if (IntKind.u64.wrap (a1)) = 0 then (none) else (some (wrap64 (Int.tmod (IntKind.u64.wrap (a0)) (IntKind.u64.wrap (a1))))))
set_option maxHeartbeats 8000000 in
set_option maxRecDepth 100000 in
theorem pick_Who.calls (a0 : Int) (a1 : Int) (r : Int) (w : World) (h : pick_Who.f a0 a1 = some r) :
    Calls Try.prog 17 #[.int .i64 a0, .int .i64 a1] w fun e w' => e = .returned (.int .i64 r) ∧ Drawn0 w w' := by
  have H : (if a1 < 1 then (some (-1)) else (if (IntKind.u64.wrap (a1)) = 0 then (none) else (some (wrap64 (Int.tmod (IntKind.u64.wrap (a0)) (IntKind.u64.wrap (a1))))))) = some r := h
  clear h
  by_cases c3 : a1 < 1
  · rw [if_pos c3] at H
    have c3b0 : decide (a1 < 1) = true := decide_eq_true c3
    clear c3
    obtain rfl := Option.some.inj H
    go_enter Try.func17, Try.ntmps17
    go_wp2
    go_ret
    exact ⟨by first | rfl | (simp; done) | (simp [*]; done), by repeat (first | exact Drawn0.refl _ | apply Drawn0.step)⟩
  · rw [if_neg c3] at H
    have c3b0 : decide (a1 < 1) = false := decide_eq_false c3
    clear c3
    by_cases c4 : (IntKind.u64.wrap (a1)) = 0
    · rw [if_pos c4] at H
      exact absurd H (by simp)
    · rw [if_neg c4] at H
      have c4b0 : ((IntKind.u64.wrap (a1)) == 0) = false := beq_eq_false_iff_ne.mpr c4
      have c4b1 : ((IntKind.u64.wrap (a1)) != 0) = true := bne_iff_ne.mpr c4
      obtain rfl := Option.some.inj H
      go_enter Try.func17, Try.ntmps17
      go_wp2
      go_ret
      exact ⟨by first | rfl | (simp; done) | (simp [*]; done), by repeat (first | exact Drawn0.refl _ | apply Drawn0.step)⟩

end Go.Proofs.Ytlcnckbmolefpaa.P
end
section
/- pick.Fair: what it answers (the last place of each one in a map, in whatever order the map is gone through). For 0 to a million ones. -/
namespace Go.Proofs.Ytlcnckbmolefpaa.P
open Go.RowKit Go.Maps Go.Proofs.YtlcnckbmolefpaaW.PrintWords Go.Proofs.YtlcnckbmolefpaaW.PrintLast Go.Proofs.YtlcnckbmolefpaaW.PrintMore
set_option linter.unusedVariables false
set_option linter.unusedSimpArgs false
def whoV (p m : Int) : Int := Int.tmod (IntKind.u64.wrap p) m
theorem u64_pos (p : Int) : 0 ≤ IntKind.u64.wrap p := by simp [IntKind.wrap, IntKind.bits, IntKind.signed]; omega
theorem whoV_nonneg (p : Int) {m : Int} (h : 1 ≤ m) : 0 ≤ whoV p m := Int.tmod_nonneg _ (u64_pos p)
theorem whoV_lt (p : Int) {m : Int} (h : 1 ≤ m) : whoV p m < m := Int.tmod_lt_of_pos _ (by omega)
theorem who_eq (p : Int) {m : Int} (h : 1 ≤ m) (h2 : m ≤ 1000000) : pick_Who.f p m = some (whoV p m) := by
  have e : IntKind.u64.wrap m = m := by simp [IntKind.wrap, IntKind.bits, IntKind.signed]; omega
  have a := whoV_nonneg p h
  have b := whoV_lt p h
  unfold pick_Who.f
  rw [if_neg (by omega), e, if_neg (by omega)]
  show some (wrap64 (whoV p m)) = _
  rw [show wrap64 (whoV p m) = whoV p m by unfold wrap64; omega]
/-- the last place ahead of the i-th at which one stands; -1: there is none -/
def lastv (L : List Int) (m x : Int) : Nat → Int
  | 0 => -1
  | i + 1 => if whoV (rd L i) m = x then (i : Int) else lastv L m x i
def fairAt (L : List Int) (m win : Int) (i : Nat) : Bool := decide ((i : Int) + 1 < win) || (List.range m.toNat).all fun x => decide (lastv L m x (i + 1) > (i : Int) - win)
def fairB (L : List Int) (m win : Int) : Bool := decide (1 ≤ win) && (List.range L.length).all (fairAt L m win)
def pick_Fair.f (l0 : List Int) (a1 a2 : Int) : Option Bool := if 0 ≤ a1 ∧ l0.length ≤ 1000000 then (if a1 ≤ 1000000 then some (fairB l0 a1 a2) else none) else none
/-- the map holds what f says of 0 to m - 1 -/
structure MapIs (D : DataW Unit) (m : Int) (f : Int → Int) : Prop where
  isMap : IsMap D
  has : ∀ x : Int, Maps.has D (.int .i64 x) = decide (0 ≤ x ∧ x < m)
  at_ : ∀ x : Int, 0 ≤ x → x < m → ∀ z, D.atKey (.int .i64 x) z = .lit (.int .i64 (f x))
theorem mapIs_nil (f : Int → Int) : MapIs (.map []) 0 f := ⟨⟨[], rfl⟩, fun x => by rw [show Maps.has (.map [] : DataW Unit) (.int .i64 x) = false from rfl]; symm; exact decide_eq_false (by omega), fun x h0 h1 => by omega⟩
theorem key_ne {x y : Int} (h : x ≠ y) : (Lit.int .i64 x) ≠ Lit.int .i64 y := fun e => h (by injection e)
theorem mapIs_more {D : DataW Unit} {m : Int} {f : Int → Int} (h : MapIs D m f) (hm : 0 ≤ m) : MapIs (D.put (.int .i64 m) (.lit (.int .i64 (f m)))) (m + 1) f := by
  refine ⟨h.isMap.put _ _, fun x => ?_, fun x h0 h1 z => ?_⟩
  · by_cases e : x = m
    · subst e; rw [has_put_same (k := .int .i64 x) h.isMap trivial]; symm; exact decide_eq_true (by omega)
    · rw [has_put_other (key_ne e), h.has]; apply decide_eq_decide.2; omega
  · by_cases e : x = m
    · subst e; rw [atKey_put_same (k := .int .i64 x) h.isMap trivial]
    · rw [atKey_put_other (key_ne e)]; exact h.at_ x h0 (by omega) z
theorem mapIs_set {D : DataW Unit} {m : Int} {f g : Int → Int} {y v : Int} (h : MapIs D m f) (h0 : 0 ≤ y) (h1 : y < m) (hg : ∀ x, g x = if y = x then v else f x) : MapIs (D.put (.int .i64 y) (.lit (.int .i64 v))) m g := by
  refine ⟨h.isMap.put _ _, fun x => ?_, fun x a0 a1 z => ?_⟩
  · by_cases e : x = y
    · subst e; rw [has_put_same (k := .int .i64 x) h.isMap trivial]; symm; exact decide_eq_true (by omega)
    · rw [has_put_other (key_ne e), h.has]
  · rw [hg x]
    by_cases e : x = y
    · subst e; rw [atKey_put_same (k := .int .i64 x) h.isMap trivial, if_pos rfl]
    · rw [atKey_put_other (key_ne e), if_neg (fun k => e k.symm)]; exact h.at_ x a0 a1 z
theorem law3 : Keyed Try.prog 3 := int_keyed Try.underlying3
theorem fair_no {L : List Int} {m win : Int} {i : Nat} (hi : i < L.length) (h1 : ¬ (i : Int) + 1 < win) {x : Int} (h2 : 0 ≤ x) (h3 : x < m) (h : lastv L m x (i + 1) ≤ (i : Int) - win) : fairB L m win = false := by
  unfold fairB
  rw [Bool.and_eq_false_iff]
  right
  rw [List.all_eq_false]
  refine ⟨i, List.mem_range.2 hi, ?_⟩
  unfold fairAt
  rw [Bool.not_eq_true, Bool.or_eq_false_iff]
  refine ⟨decide_eq_false h1, List.all_eq_false.2 ⟨x.toNat, List.mem_range.2 (by omega), ?_⟩⟩
  rw [show ((x.toNat : Nat) : Int) = x by omega]
  simp only [decide_eq_true_eq]
  omega
theorem fair_yes {L : List Int} {m win : Int} (hw : 1 ≤ win) (h : ∀ i : Nat, i < L.length → fairAt L m win i = true) : fairB L m win = true := by
  unfold fairB
  rw [Bool.and_eq_true]
  exact ⟨decide_eq_true hw, List.all_eq_true.2 fun i hi => h i (List.mem_range.1 hi)⟩
theorem fairAt_short {L : List Int} {m win : Int} {i : Nat} (h : (i : Int) + 1 < win) : fairAt L m win i = true := by unfold fairAt; rw [decide_eq_true h]; rfl
theorem fairAt_all {L : List Int} {m win : Int} {i : Nat} (h : ∀ x : Int, 0 ≤ x → x < m → lastv L m x (i + 1) > (i : Int) - win) : fairAt L m win i = true := by
  unfold fairAt
  rw [Bool.or_eq_true]
  refine Or.inr (List.all_eq_true.2 fun x hx => ?_)
  have := List.mem_range.1 hx
  exact decide_eq_true (h x (by omega) (by omega))
theorem mapIs_zero {D : DataW Unit} {m : Int} {f g : Int → Int} (h : MapIs D m f) (h0 : ¬ m > 0) : MapIs D m g := ⟨h.isMap, h.has, fun x a b => by omega⟩
theorem mapIs_step {L : List Int} {D : DataW Unit} {m i y : Int} (h : MapIs D m (fun x => lastv L m x i.toNat)) (h0 : 0 ≤ i) (hm : 0 < m) (hy : y = whoV (rd L i) m) : MapIs (D.put (.int .i64 y) (.lit (.int .i64 i))) m (fun x => lastv L m x (i + 1).toNat) := by
  subst hy
  refine mapIs_set h (whoV_nonneg _ (by omega)) (whoV_lt _ (by omega)) (fun x => ?_)
  show lastv L m x (i + 1).toNat = _
  rw [show (i + 1).toNat = i.toNat + 1 by omega, lastv, show ((i.toNat : Nat) : Int) = i by omega]
theorem fair_left {L : List Int} {D : DataW Unit} {m i win x c : Int} {left : Lit → Bool} (hD : MapIs D m (fun x => lastv L m x (i + 1).toNat)) (h : ∀ y : Int, 0 ≤ y → y < m → left (.int .i64 y) = false → lastv L m y (i + 1).toNat > i - win) (hat : ∀ zd, D.atKey (.int .i64 x) zd = .lit (.int .i64 c)) (hc : ¬ c ≤ i - win) :
    ∀ y : Int, 0 ≤ y → y < m → (left (.int .i64 y) && !(Lit.int .i64 y).sameKey (.int .i64 x)) = false → lastv L m y (i + 1).toNat > i - win := by
  intro y h0 h1 hy
  by_cases e : y = x
  · subst e
    have := hD.at_ y h0 h1 .nil
    rw [hat] at this
    injection this with this
    injection this with _ this
    rw [this] at hc
    exact Int.not_le.1 hc
  · rw [sameKey_ne (key_ne e)] at hy
    exact h y h0 h1 (by simpa using hy)
theorem fair_hit {L : List Int} {D : DataW Unit} {m i win x c : Int} (hi0 : 0 ≤ i) (hi : i < L.length) (hw : ¬ i + 1 < win) (hD : MapIs D m (fun x => lastv L m x (i + 1).toNat)) (hat : ∀ zd, D.atKey (.int .i64 x) zd = .lit (.int .i64 c)) (hc : c ≤ i - win) : fairB L m win = false := by
  have hx : 0 ≤ x ∧ x < m := of_decide_eq_true (by rw [← hD.has]; exact has_true_of_atKey hat)
  have e := hD.at_ x hx.1 hx.2 .nil
  rw [hat] at e
  injection e with e
  injection e with _ e
  rw [e] at hc
  have n1 : ((i.toNat : Nat) : Int) = i := by omega
  exact fair_no (i := i.toNat) (by omega) (by omega) hx.1 hx.2 (by rw [show i.toNat + 1 = (i + 1).toNat by omega, n1]; exact hc)
theorem fair_step {L : List Int} {m i win : Int} (hi0 : 0 ≤ i) (h : ∀ j : Nat, (j : Int) < i → fairAt L m win j = true) (hi : fairAt L m win i.toNat = true) : ∀ j : Nat, (j : Int) < i + 1 → fairAt L m win j = true := by
  intro j hj
  by_cases e : (j : Int) < i
  · exact h j e
  · rw [show j = i.toNat by omega]; exact hi
theorem fair_round {L : List Int} {m i win : Int} {left : Lit → Bool} (hi0 : 0 ≤ i) (h : ∀ y : Int, 0 ≤ y → y < m → left (.int .i64 y) = false → lastv L m y (i + 1).toNat > i - win) (hl : ∀ k, left k = false) : fairAt L m win i.toNat = true := by
  refine fairAt_all fun x h0 h1 => ?_
  have := h x h0 h1 (hl _)
  rw [show i.toNat + 1 = (i + 1).toNat by omega, show ((i.toNat : Nat) : Int) = i by omega]
  exact this
set_option maxHeartbeats 1000000 in
set_option maxRecDepth 100000 in
theorem pick_Fair.calls (A0 : Option Addr) (c0 : Nat) (l0 : List Int) (a1 a2 : Int) (r : Bool) (w : World) (hr0 : Kd.C (Kd.int .i64) w A0 l0.length l0) (hc0 : l0.length ≤ c0) (h : pick_Fair.f l0 a1 a2 = some r) :
    Calls Try.prog 22 #[.slice A0 l0.length c0, .int .i64 a1, .int .i64 a2] w fun e w' => e = .returned (.bool r) ∧ Below w.heap.size w w' := by
  unfold pick_Fair.f at h
  by_cases m0 : 0 ≤ a1 ∧ l0.length ≤ 1000000
  · rw [if_pos m0] at h
    obtain ⟨m0, lm⟩ := m0
    by_cases m1 : a1 ≤ 1000000
    · rw [if_pos m1] at h
      obtain rfl := Option.some.inj h
      clear h
      have HR := Aside0.mk hr0
      have hm := hr0.2.1
      clear hr0 hc0
      by_cases hw : a2 < 1
      · have e : fairB l0 a1 a2 = false := by unfold fairB; rw [decide_eq_false (by omega)]; rfl
        have E := Aside0.mk e
        have hwb := decide_eq_true hw
        clear e hw
        go_enter Try.func22, Try.ntmps22
        go_wp2
        go_ret
        exact ⟨by rw [E.out]; rfl, Below.refl _ _⟩
      · have hmm := @run_makeMap Try.prog
        have hw1 : 1 ≤ a2 := by omega
        have hwb := decide_eq_false hw
        have hmx : max a1 0 = a1 := by omega
        clear hw
        go_enter Try.func22, Try.ntmps22
        go_wp2
        go_loopw [18] (fun v18 wr => ∃ (j : Int) (D : DataW Unit), v18 = .int .i64 j ∧ Aside0 (0 ≤ j ∧ j ≤ a1 ∧ MapIs D j (fun _ => -1) ∧ wr.ownsMap Try.prog 3 (plainElem Try.prog 3) w.heap.size j.toNat D ∧ Below w.heap.size w wr)) (fun v18 _ => (a1 - intOf v18).toNat)
        case atStart => exact ⟨0, .map [], rfl, ⟨by omega, m0, mapIs_nil _, World.ownsMap_made _ _ _ _, (Below.refl _ _).alloc (Nat.le_refl _) _⟩⟩
        case round =>
          obtain ⟨j, D, rfl, HJ⟩ := hrel
          have j0 := HJ.out.1
          have j1 := HJ.out.2.1
          by_cases hlt : j < a1
          · have hltb := decide_eq_true hlt
            go_wp2_with (first | (at_mapUpdate; refine wpList_mapUpdate_own _ rfl _ _ _ 125 rfl 3 3 law3 Try.underlying125 _ w.heap.size _ _ rfl HJ.out.2.2.2.1 (by unfold maxLen; omega) _ _ _ rfl rfl (keyOf_int_mk Try.underlying3 (a := j) (WalkArith.wf_i64 (by omega))) _ [] (plainElem_int Try.underlying3 (by decide)) ?_; intro w2 hout2 hg2; go_frame))
            go_roundw
            case rel => exact ⟨j + 1, _, by go_num, ⟨by omega, by omega, mapIs_more HJ.out.2.2.1 j0, by rw [show (j + 1).toNat = j.toNat + 1 by omega]; exact hout2, HJ.out.2.2.2.2.grown hg2 HJ.out.2.2.2.2.size (fun k hk => by cases hk; exact Nat.le_refl _)⟩⟩
            case measure => simp [intOf]; omega
          · have hltb := decide_eq_false hlt
            obtain rfl : j = a1 := by omega
            have HJ2 := Aside0.mk HJ.out.2.2
            clear HJ
            obtain ⟨wo, rfl⟩ : ∃ wo : World, wo = wr := ⟨_, rfl⟩
            go_wp2
            go_loopw [26] (fun v26 wr => ∃ (i : Int) (D : DataW Unit), v26 = .int .i64 i ∧ Aside0 (0 ≤ i ∧ i ≤ l0.length ∧ MapIs D j (fun x => lastv l0 j x i.toNat) ∧ wr.ownsMap Try.prog 3 (plainElem Try.prog 3) w.heap.size (j.toNat + i.toNat) D ∧ Below w.heap.size w wr ∧ ∀ q : Nat, (q : Int) < i → fairAt l0 j a2 q = true)) (fun v26 _ => (l0.length - intOf v26).toNat)
            case atStart => exact ⟨0, D, rfl, ⟨by omega, by omega, HJ2.out.1, HJ2.out.2.1, HJ2.out.2.2, fun q hq => by omega⟩⟩
            case round =>
              obtain ⟨i, D, rfl, HI⟩ := hrel
              have i0 := HI.out.1
              have i1 := HI.out.2.1
              by_cases hlt : i < (l0.length : Int)
              · have hltb := decide_eq_true hlt
                obtain ⟨ad, rfl, hx⟩ := Kd.at_int (Kd.C_below HR.out HI.out.2.2.2.2.1) i i0 hlt
                by_cases hp : j > 0
                · have hpb := decide_eq_true hp
                  have WH := Aside0.mk (who_eq (rd l0 i) (m := j) (by omega) m1)
                  have wn := whoV_nonneg (rd l0 i) (m := j) (by omega)
                  have wl := whoV_lt (rd l0 i) (m := j) (by omega)
                  generalize hy : whoV (rd l0 i) j = y at WH wn wl
                  have HY := Aside0.mk hy
                  clear hy
                  by_cases hs : i + 1 < a2
                  · have hsb := decide_eq_true hs
                    go_wp2_with (first | (go_at_call 17; (with_reducible refine (pick_Who.calls (rd l0 i) j y _ WH.out).mono ?_); rintro e w' ⟨rfl, ⟨nd, rfl⟩⟩) | (at_mapUpdate; refine wpList_mapUpdate_own _ rfl _ _ _ 125 rfl 3 3 law3 Try.underlying125 (plainElem Try.prog 3) w.heap.size (j.toNat + i.toNat) D rfl ?hO (by unfold maxLen; omega) _ _ _ rfl rfl (keyOf_int_mk Try.underlying3 (a := y) (WalkArith.wf_i64 (by omega))) _ [] (plainElem_int Try.underlying3 (a := i) (WalkArith.wf_i64 (by omega))) ?_; (case hO => exact HI.out.2.2.2.1); intro w2 hout2 hg2; go_frame))
                    go_roundw
                    case rel => exact ⟨i + 1, _, by go_num, ⟨by omega, by omega, mapIs_step HI.out.2.2.1 i0 hp HY.out.symm, by rw [show j.toNat + (i + 1).toNat = j.toNat + i.toNat + 1 by omega]; exact hout2, (below_step HI.out.2.2.2.2.1 (Drawn0.below ⟨⟨nd, rfl⟩⟩)).grown hg2 (below_step HI.out.2.2.2.2.1 (Drawn0.below ⟨⟨nd, rfl⟩⟩)).size (fun k hk => by cases hk; exact Nat.le_refl _), fair_step i0 HI.out.2.2.2.2.2 (fairAt_short (by omega))⟩⟩
                    case measure => simp [intOf]; omega
                  · have hsb := decide_eq_false hs
                    go_wp2_with (first | (go_at_call 17; (with_reducible refine (pick_Who.calls (rd l0 i) j y _ WH.out).mono ?_); rintro e w' ⟨rfl, ⟨nd, rfl⟩⟩) | (at_mapUpdate; refine wpList_mapUpdate_own _ rfl _ _ _ 125 rfl 3 3 law3 Try.underlying125 (plainElem Try.prog 3) w.heap.size (j.toNat + i.toNat) D rfl ?hO (by unfold maxLen; omega) _ _ _ rfl rfl (keyOf_int_mk Try.underlying3 (a := y) (WalkArith.wf_i64 (by omega))) _ [] (plainElem_int Try.underlying3 (a := i) (WalkArith.wf_i64 (by omega))) ?_; (case hO => exact HI.out.2.2.2.1); intro w2 hout2 hg2; go_frame) | (at_range; have _t := hout2; refine wpList_range_own _ rfl _ 125 rfl 3 3 law3 Try.underlying125 (plainElem Try.prog 3) w.heap.size (j.toNat + i.toNat + 1) _ rfl hout2 ?_; intro w3 hrg3 hg3 hs3))
                    have HB2 := Aside0.mk ((below_step HI.out.2.2.2.2.1 (Drawn0.below ⟨⟨nd, rfl⟩⟩)).grown hg2 (below_step HI.out.2.2.2.2.1 (Drawn0.below ⟨⟨nd, rfl⟩⟩)).size (fun k hk => by cases hk; exact Nat.le_refl _))
                    have HB3 := Aside0.mk (HB2.out.grown hg3 HB2.out.size (fun k hk => by cases hk))
                    have HM := Aside0.mk (mapIs_step HI.out.2.2.1 i0 hp HY.out.symm)
                    have HRG := Aside0.mk hrg3
                    clear hrg3 hg3 hs3
                    (try go_frame)
                    go_loopw [12] (fun _ wr => Aside0 (∃ (left : Lit → Bool) (cnt : Nat), wr.ranges Try.prog 3 (plainElem Try.prog 3) w.heap.size w2.heap.size (j.toNat + i.toNat + 1) (D.put (.int .i64 y) (.lit (.int .i64 i))) left cnt ∧ Below w.heap.size w wr ∧ ∀ y : Int, 0 ≤ y → y < j → left (.int .i64 y) = false → lastv l0 j y (i + 1).toNat > i - a2)) (fun _ wr => wr.rangeLeft w.heap.size w2.heap.size)
                    case atStart => exact ⟨_, _, HRG.out, HB3.out, fun y h0 h1 h2 => by rw [HM.out.has] at h2; simp at h2; omega⟩
                    case round =>
                      obtain ⟨left, cnt, hrg, hbr, hlf⟩ := hrel.out
                      clear hrel
                      have HLF := Aside0.mk hlf
                      have HBR := Aside0.mk hbr
                      have HQ := Aside0.mk hrg
                      clear hlf hbr hrg
                      go_wp2_with (first | (at_next; refine wpList_next_ranges_ii _ rfl _ rfl 3 3 .i64 .i64 law3 Try.underlying3 Try.underlying3 w.heap.size w2.heap.size (j.toNat + i.toNat + 1) (D.put (.int .i64 y) (.lit (.int .i64 i))) left cnt rfl HQ.out ?_ ?_))
                      · intro _ hl0
                        have HS := Aside0.mk (fair_step i0 HI.out.2.2.2.2.2 (fair_round i0 HLF.out hl0))
                        clear hl0
                        go_wp2
                        go_roundw
                        case rel => exact ⟨i + 1, (D.put (.int .i64 y) (.lit (.int .i64 i))), by go_num, ⟨by omega, by omega, HM.out, by rw [show j.toNat + (i + 1).toNat = j.toNat + i.toNat + 1 by omega]; exact HQ.out.owns, HBR.out, HS.out⟩⟩
                        case measure => simp [intOf]; omega
                      · intro x c w1 cnt1 hwx hwc hlx hat hrg1 hlt1 hg1 hs1 hen
                        have HAT := Aside0.mk hat
                        have HG1 := Aside0.mk hrg1
                        have HLT1 := Aside0.mk hlt1
                        have HB1 := Aside0.mk (HBR.out.grown hg1 HBR.out.size (fun k hk => by cases hk; exact HB2.out.size))
                        clear hat hrg1 hlt1 hg1 hs1 hlx
                        by_cases hc : c ≤ i - a2
                        · have hcb := decide_eq_true hc
                          have HF := Aside0.mk (fair_hit i0 hlt (by omega) HM.out HAT.out hc)
                          go_wp2
                          go_ret
                          exact ⟨by rw [HF.out]; rfl, HB1.out⟩
                        · have hcb := decide_eq_false hc
                          have HN := Aside0.mk (fair_left HM.out HLF.out HAT.out hc)
                          go_wp2
                          go_roundw
                          case rel => exact ⟨⟨_, cnt1, HG1.out, HB1.out, HN.out⟩⟩
                          case measure => rw [HG1.out.left_eq, HQ.out.left_eq]; exact HLT1.out
                · have hpb := decide_eq_false hp
                  by_cases hs : i + 1 < a2
                  · have hsb := decide_eq_true hs
                    go_wp2
                    go_roundw
                    case rel => exact ⟨i + 1, D, by go_num, ⟨by omega, by omega, mapIs_zero HI.out.2.2.1 (by omega), by rw [show j.toNat + (i + 1).toNat = j.toNat + i.toNat + 1 by omega]; exact HI.out.2.2.2.1.mono (Nat.le_succ _), HI.out.2.2.2.2.1, fair_step i0 HI.out.2.2.2.2.2 (fairAt_short (by omega))⟩⟩
                    case measure => simp [intOf]; omega
                  · have hsb := decide_eq_false hs
                    obtain ⟨wi, rfl⟩ : ∃ wi : World, wi = wr := ⟨_, rfl⟩
                    go_wp2_with (first | (at_range; refine wpList_range_own _ rfl _ 125 rfl 3 3 law3 Try.underlying125 (plainElem Try.prog 3) w.heap.size (j.toNat + i.toNat) D rfl HI.out.2.2.2.1 ?_; intro w3 hrg3 hg3 hs3))
                    have HB3 := Aside0.mk (HI.out.2.2.2.2.1.grown hg3 HI.out.2.2.2.2.1.size (fun k hk => by cases hk))
                    have HM := Aside0.mk (mapIs_zero (g := fun x => lastv l0 j x (i + 1).toNat) HI.out.2.2.1 (by omega))
                    have HRG := Aside0.mk hrg3
                    clear hrg3 hg3 hs3
                    (try go_frame)
                    go_loopw [12] (fun _ wr => Aside0 (∃ (left : Lit → Bool) (cnt : Nat), wr.ranges Try.prog 3 (plainElem Try.prog 3) w.heap.size wi.heap.size (j.toNat + i.toNat) D left cnt ∧ Below w.heap.size w wr ∧ ∀ y : Int, 0 ≤ y → y < j → left (.int .i64 y) = false → lastv l0 j y (i + 1).toNat > i - a2)) (fun _ wr => wr.rangeLeft w.heap.size wi.heap.size)
                    case atStart => exact ⟨_, _, HRG.out, HB3.out, fun y h0 h1 h2 => by rw [HM.out.has] at h2; simp at h2; omega⟩
                    case round =>
                      obtain ⟨left, cnt, hrg, hbr, hlf⟩ := hrel.out
                      clear hrel
                      have HLF := Aside0.mk hlf
                      have HBR := Aside0.mk hbr
                      have HQ := Aside0.mk hrg
                      clear hlf hbr hrg
                      go_wp2_with (first | (at_next; refine wpList_next_ranges_ii _ rfl _ rfl 3 3 .i64 .i64 law3 Try.underlying3 Try.underlying3 w.heap.size wi.heap.size (j.toNat + i.toNat) D left cnt rfl HQ.out ?_ ?_))
                      · intro _ hl0
                        have HS := Aside0.mk (fair_step i0 HI.out.2.2.2.2.2 (fair_round i0 HLF.out hl0))
                        clear hl0
                        go_wp2
                        go_roundw
                        case rel => exact ⟨i + 1, D, by go_num, ⟨by omega, by omega, HM.out, by rw [show j.toNat + (i + 1).toNat = j.toNat + i.toNat + 1 by omega]; exact HQ.out.owns.mono (Nat.le_succ _), HBR.out, HS.out⟩⟩
                        case measure => simp [intOf]; omega
                      · intro x c w1 cnt1 hwx hwc hlx hat hrg1 hlt1 hg1 hs1 hen
                        have HAT := Aside0.mk hat
                        have HG1 := Aside0.mk hrg1
                        have HLT1 := Aside0.mk hlt1
                        have HB1 := Aside0.mk (HBR.out.grown hg1 HBR.out.size (fun k hk => by cases hk; exact HI.out.2.2.2.2.1.size))
                        clear hat hrg1 hlt1 hg1 hs1 hlx
                        by_cases hc : c ≤ i - a2
                        · have hcb := decide_eq_true hc
                          have HF := Aside0.mk (fair_hit i0 hlt (by omega) HM.out HAT.out hc)
                          go_wp2
                          go_ret
                          exact ⟨by rw [HF.out]; rfl, HB1.out⟩
                        · have hcb := decide_eq_false hc
                          have HN := Aside0.mk (fair_left HM.out HLF.out HAT.out hc)
                          go_wp2
                          go_roundw
                          case rel => exact ⟨⟨_, cnt1, HG1.out, HB1.out, HN.out⟩⟩
                          case measure => rw [HG1.out.left_eq, HQ.out.left_eq]; exact HLT1.out
              · have hltb := decide_eq_false hlt
                have hfin : fairB l0 j a2 = true := fair_yes hw1 (fun q hq => HI.out.2.2.2.2.2 q (by omega))
                have HF := Aside0.mk hfin
                clear hfin
                go_wp2
                go_ret
                exact ⟨by rw [HF.out]; rfl, HI.out.2.2.2.2.1⟩
    · rw [if_neg m1] at h; cases h
  · rw [if_neg m0] at h; cases h
end Go.Proofs.Ytlcnckbmolefpaa.P
end
section
-- Printed by the session's own turn of the print (wip/tools/print2.sh): some callees are proved by hand.
namespace Go.Proofs.Ytlcnckbmolefpaa.P
open Go.RowKit Go.Proofs.YtlcnckbmolefpaaW.PrintWords Go.Proofs.YtlcnckbmolefpaaW.PrintLast Go.Proofs.YtlcnckbmolefpaaW.PrintMore
attribute [local go_sem] max2_int min2_int max_two min_two max_three min_three max_four min_four   -- for this text's walks alone
set_option linter.unusedVariables false
set_option linter.unusedSimpArgs false

/-! ### marchlandlaw10_told: function 16 -/
def marchlandlaw10_told.f (k : Nat)  : Option (Bool) := (some (([0, 1, 0, 2, 1] : List Int) : List Int)).bind fun y106 => ((pick_Who.f (-1) 3).bind fun t109 => (if t109 = 0 then ((pick_Who.f 5 0).bind fun t110 => (if t110 = (-1) then ((pick_Turns.f k 2 3).bind fun t111 => ((marchlandlaw10_Ints.f k t111 (([0, 1, 0] : List Int))).bind fun t117 => (if t117 = true then ((pick_Fair.f y106 3 4).bind fun t118 => (if t118 = true then ((pick_Fair.f y106 3 3).bind fun t119 => (some (!t119))) else (some false))) else (some false)))) else (some false))) else (some false)))
theorem marchlandlaw10_told.mono : ∀ k, LeO (marchlandlaw10_told.f k ) (marchlandlaw10_told.f (k + 1) ) := by
  intro  k
  unfold marchlandlaw10_told.f
  repeat' first
      | (with_reducible exact marchlandlaw10_Ints.mono _ _ _)
      | (with_reducible exact pick_Turns.mono _ _ _)
      | (with_reducible exact LeO.refl _)
      | (with_reducible exact LeO.none _)
      | (with_reducible refine LeO.ite ?_ ?_)
      | (with_reducible refine LeO.bind ?_ (fun _ => ?_))
      | exact marchlandlaw10_Ints.mono _ _ _
      | exact pick_Turns.mono _ _ _
      | exact LeO.none _
      | refine LeO.ite ?_ ?_
      | refine LeO.bind ?_ (fun _ => ?_)
set_option maxHeartbeats 8000000 in
set_option maxRecDepth 100000 in
theorem marchlandlaw10_told.calls (k : Nat)  (r : Bool) (w : World) (h : marchlandlaw10_told.f k  = some r) :
    Calls Try.prog 16 #[] w fun e w' => e = .returned (.bool r) ∧ Below w.heap.size w w' := by
  have HB := Aside0.mk (Below.refl w.heap.size w)
  have H : ((some (([0, 1, 0, 2, 1] : List Int) : List Int)).bind fun y106 => ((pick_Who.f (-1) 3).bind fun t109 => (if t109 = 0 then ((pick_Who.f 5 0).bind fun t110 => (if t110 = (-1) then ((pick_Turns.f k 2 3).bind fun t111 => ((marchlandlaw10_Ints.f k t111 (([0, 1, 0] : List Int))).bind fun t117 => (if t117 = true then ((pick_Fair.f y106 3 4).bind fun t118 => (if t118 = true then ((pick_Fair.f y106 3 3).bind fun t119 => (some (!t119))) else (some false))) else (some false)))) else (some false))) else (some false)))) = some r := h
  clear h
  obtain ⟨y106, hy106⟩ : ∃ y_ : List Int, y_ = (([0, 1, 0, 2, 1] : List Int)) := ⟨_, rfl⟩
  replace H : ((pick_Who.f (-1) 3).bind fun t109 => (if t109 = 0 then ((pick_Who.f 5 0).bind fun t110 => (if t110 = (-1) then ((pick_Turns.f k 2 3).bind fun t111 => ((marchlandlaw10_Ints.f k t111 (([0, 1, 0] : List Int))).bind fun t117 => (if t117 = true then ((pick_Fair.f y106 3 4).bind fun t118 => (if t118 = true then ((pick_Fair.f y106 3 3).bind fun t119 => (some (!t119))) else (some false))) else (some false)))) else (some false))) else (some false))) = some r := by first | (rw [hy106]; with_reducible exact H) | (have H2_ := (Option.bind_some _ _).symm.trans H; rw [hy106]; with_reducible exact H2_) | (have H2_ := (Option.bind_some _ _).symm.trans H; with_reducible exact H2_) | with_reducible exact H | (rw [hy106]; exact H) | exact H
  have Ny106 := Aside0.mk hy106
  clear hy106
  replace H := Option.bind_eq_some_iff.mp H
  obtain ⟨t109, A10, H⟩ := H
  replace H : (if t109 = 0 then ((pick_Who.f 5 0).bind fun t110 => (if t110 = (-1) then ((pick_Turns.f k 2 3).bind fun t111 => ((marchlandlaw10_Ints.f k t111 (([0, 1, 0] : List Int))).bind fun t117 => (if t117 = true then ((pick_Fair.f y106 3 4).bind fun t118 => (if t118 = true then ((pick_Fair.f y106 3 3).bind fun t119 => (some (!t119))) else (some false))) else (some false)))) else (some false))) else (some false)) = some r := H
  have A1 := Aside0.mk A10
  clear A10
  by_cases c2 : t109 = 0
  · rw [if_pos c2] at H
    have c2b0 : (t109 == 0) = true := beq_iff_eq.mpr c2
    have c2b1 : (t109 != 0) = false := bne_eq_false_iff_eq.mpr c2
    clear c2
    replace H := Option.bind_eq_some_iff.mp H
    obtain ⟨t110, A30, H⟩ := H
    replace H : (if t110 = (-1) then ((pick_Turns.f k 2 3).bind fun t111 => ((marchlandlaw10_Ints.f k t111 (([0, 1, 0] : List Int))).bind fun t117 => (if t117 = true then ((pick_Fair.f y106 3 4).bind fun t118 => (if t118 = true then ((pick_Fair.f y106 3 3).bind fun t119 => (some (!t119))) else (some false))) else (some false)))) else (some false)) = some r := H
    have A3 := Aside0.mk A30
    clear A30
    by_cases c4 : t110 = (-1)
    · rw [if_pos c4] at H
      have c4b0 : (t110 == (-1)) = true := beq_iff_eq.mpr c4
      have c4b1 : (t110 != (-1)) = false := bne_eq_false_iff_eq.mpr c4
      clear c4
      replace H := Option.bind_eq_some_iff.mp H
      obtain ⟨t111, A50, H⟩ := H
      replace H : ((marchlandlaw10_Ints.f k t111 (([0, 1, 0] : List Int))).bind fun t117 => (if t117 = true then ((pick_Fair.f y106 3 4).bind fun t118 => (if t118 = true then ((pick_Fair.f y106 3 3).bind fun t119 => (some (!t119))) else (some false))) else (some false))) = some r := H
      have A5 := Aside0.mk A50
      clear A50
      obtain ⟨y114, hy114⟩ : ∃ y_ : List Int, y_ = (([0, 1, 0] : List Int)) := ⟨_, rfl⟩
      replace H : ((marchlandlaw10_Ints.f k t111 y114).bind fun t117 => (if t117 = true then ((pick_Fair.f y106 3 4).bind fun t118 => (if t118 = true then ((pick_Fair.f y106 3 3).bind fun t119 => (some (!t119))) else (some false))) else (some false))) = some r := by first | (rw [hy114]; with_reducible exact H) | (have H2_ := (Option.bind_some _ _).symm.trans H; rw [hy114]; with_reducible exact H2_) | (have H2_ := (Option.bind_some _ _).symm.trans H; with_reducible exact H2_) | with_reducible exact H | (rw [hy114]; exact H) | exact H
      have Ny114 := Aside0.mk hy114
      clear hy114
      replace H := Option.bind_eq_some_iff.mp H
      obtain ⟨t117, A60, H⟩ := H
      replace H : (if t117 = true then ((pick_Fair.f y106 3 4).bind fun t118 => (if t118 = true then ((pick_Fair.f y106 3 3).bind fun t119 => (some (!t119))) else (some false))) else (some false)) = some r := H
      have A6 := Aside0.mk A60
      clear A60
      by_cases c7 : t117 = true
      · subst c7
        have H1 : ((pick_Fair.f y106 3 4).bind fun t118 => (if t118 = true then ((pick_Fair.f y106 3 3).bind fun t119 => (some (!t119))) else (some false))) = some r := by rw [if_pos rfl] at H; exact H
        clear H
        have H := H1
        clear H1
        replace H := Option.bind_eq_some_iff.mp H
        obtain ⟨t118, A80, H⟩ := H
        replace H : (if t118 = true then ((pick_Fair.f y106 3 3).bind fun t119 => (some (!t119))) else (some false)) = some r := H
        have A8 := Aside0.mk A80
        clear A80
        by_cases c9 : t118 = true
        · subst c9
          have H1 : ((pick_Fair.f y106 3 3).bind fun t119 => (some (!t119))) = some r := by rw [if_pos rfl] at H; exact H
          clear H
          have H := H1
          clear H1
          replace H := Option.bind_eq_some_iff.mp H
          obtain ⟨t119, A100, H⟩ := H
          replace H : (some (!t119)) = some r := H
          have A10 := Aside0.mk A100
          clear A100
          obtain rfl := Option.some.inj H
          go_enter Try.func16, Try.ntmps16
          go_wp2_with (first | ((with_reducible refine gate_dst (N := 2) rfl ?_); (try (refine gate_guard (by rfl) ?_; dsimp only)); refine Kd.R_lit (Kd.int .i64) _ 3 ?hg (N := 2) ?hd (xs := ([0, 1, 0, 2, 1] : List Int)) (inner := [.int .i64 0, .int .i64 1, .int .i64 0, .int .i64 2, .int .i64 1]) (ok := fun _ => True) (okp := fun _ => True) ?hr ?hp (fun _ hk => hk) trivial (Below.refl _ _) (Nat.le_refl _) (by simp) ?_; (case hd => rfl); (case hg => rfl); (case hr => first | (go_simp; done) | (go_simp; rfl)); (case hp => exact (Reps.one (show Kd.M (Kd.int .i64) _ _ _ 0 [.int .i64 0] from rfl) (Reps.one (show Kd.M (Kd.int .i64) _ _ _ 1 [.int .i64 1] from rfl) (Reps.one (show Kd.M (Kd.int .i64) _ _ _ 0 [.int .i64 0] from rfl) (Reps.one (show Kd.M (Kd.int .i64) _ _ _ 2 [.int .i64 2] from rfl) (Reps.one (show Kd.M (Kd.int .i64) _ _ _ 1 [.int .i64 1] from rfl) (Reps.none _ _))))))); intro v107 w11 ho12 hb hg_ hnew_; clear hg_ hnew_; (first | rw [← Ny106.out] at ho12 | (simp only [Int.reduceToNat] at ho12; rw [← Ny106.out] at ho12)); have n0_ := Aside0.mk (Kd.R_lower ho12 (below_size (by repeat (first | (with_reducible first | exact HB.out | apply below_alloc | apply pw_below_drewN | apply below_drew1) | exact HB.out)))); have n1_ := Aside0.mk (below_step (by repeat (first | (with_reducible first | exact HB.out | apply below_alloc | apply pw_below_drewN | apply below_drew1) | exact HB.out)) hb); clear HB; have HO108 := n0_; have HB := n1_; clear n0_ n1_; clear hb ho12) | ((with_reducible refine gate_callee (f := 17) rfl ?_); refine goesL_ (some 3) rfl rfl Try.func17 (by kernel_rfl) rfl #[.int .i64 (-1), .int .i64 3] rfl (by (try simp only [List.map_toArray, List.map_cons, List.map_nil]); first | done | rfl | (simp only [List.length_drop, List.length_take]; rfl)) ?_; (with_reducible refine (pick_Who.calls (-1) 3 t109 _ A1.out).mono ?_); rintro e w' ⟨rfl, ⟨nd, rfl⟩⟩; refine ⟨_, rfl, ?_⟩) | (go_at_call 17; (with_reducible refine (pick_Who.calls 5 0 t110 _ A3.out).mono ?_); rintro e w' ⟨rfl, ⟨nd, rfl⟩⟩) | (go_at_call 20; (with_reducible refine (pick_Turns.calls k 2 3 t111 _ A5.out).mono ?_); rintro e w13 ⟨v112, rfl, ho0, hb⟩; have n0_ := Aside0.mk (Kd.R_elder' (by (with_reducible repeat (first | apply Kd.R_alloc | apply Kd.R_drewN | apply Kd.R_drew)); exact HO108.out) (Kd.R_base ho0) hb); have n1_ := Aside0.mk (Kd.R_lower (Kd.R_new' ho0 (Kd.R_lt (by (with_reducible repeat (first | apply Kd.R_alloc | apply Kd.R_drewN | apply Kd.R_drew)); exact HO108.out))) (below_size (by repeat (first | (with_reducible first | exact HB.out | apply below_alloc | apply pw_below_drewN | apply below_drew1) | exact HB.out)))); have n2_ := Aside0.mk (below_step (by repeat (first | (with_reducible first | exact HB.out | apply below_alloc | apply pw_below_drewN | apply below_drew1) | exact HB.out)) hb); clear HO108; clear HB; have HO108 := n0_; have HO113 := n1_; have HB := n2_; clear n0_ n1_ n2_; (try clear hb); (try clear hb2); (try clear hk); (try clear hi); (try clear ho0)) | ((with_reducible refine gate_dst (N := 11) rfl ?_); (try (refine gate_guard (by rfl) ?_; dsimp only)); refine Kd.R_lit (Kd.int .i64) _ 3 ?hg (N := 11) ?hd (xs := ([0, 1, 0] : List Int)) (inner := [.int .i64 0, .int .i64 1, .int .i64 0]) (ok := fun _ => True) (okp := fun _ => True) ?hr ?hp (fun _ hk => hk) trivial (Below.refl _ _) (Nat.le_refl _) (by simp) ?_; (case hd => rfl); (case hg => rfl); (case hr => first | (go_simp; done) | (go_simp; rfl)); (case hp => exact (Reps.one (show Kd.M (Kd.int .i64) _ _ _ 0 [.int .i64 0] from rfl) (Reps.one (show Kd.M (Kd.int .i64) _ _ _ 1 [.int .i64 1] from rfl) (Reps.one (show Kd.M (Kd.int .i64) _ _ _ 0 [.int .i64 0] from rfl) (Reps.none _ _))))); intro v115 w14 ho15 hb hg_ hnew_; clear hg_ hnew_; (first | rw [← Ny114.out] at ho15 | (simp only [Int.reduceToNat] at ho15; rw [← Ny114.out] at ho15)); have n0_ := Aside0.mk (Kd.R_elder' (by (with_reducible repeat (first | apply Kd.R_alloc | apply Kd.R_drewN | apply Kd.R_drew)); exact HO108.out) (Kd.R_base ho15) hb); have n1_ := Aside0.mk (Kd.R_elder' (by (with_reducible repeat (first | apply Kd.R_alloc | apply Kd.R_drewN | apply Kd.R_drew)); exact HO113.out) (Kd.R_base ho15) hb); have n2_ := Aside0.mk (Kd.R_lower (Kd.R_new' (Kd.R_new' ho15 (Kd.R_lt (by (with_reducible repeat (first | apply Kd.R_alloc | apply Kd.R_drewN | apply Kd.R_drew)); exact HO108.out))) (Kd.R_lt (by (with_reducible repeat (first | apply Kd.R_alloc | apply Kd.R_drewN | apply Kd.R_drew)); exact HO113.out))) (below_size (by repeat (first | (with_reducible first | exact HB.out | apply below_alloc | apply pw_below_drewN | apply below_drew1) | exact HB.out)))); have n3_ := Aside0.mk (below_step (by repeat (first | (with_reducible first | exact HB.out | apply below_alloc | apply pw_below_drewN | apply below_drew1) | exact HB.out)) hb); clear HO108; clear HO113; clear HB; have HO108 := n0_; have HO113 := n1_; have HO116 := n2_; have HB := n3_; clear n0_ n1_ n2_ n3_; clear hb ho15; obtain ⟨Ao16, co16, eo16⟩ := Kd.R_slice HO113.out; subst eo16; obtain ⟨Ao17, co17, eo17⟩ := Kd.R_slice HO116.out; subst eo17) | (go_at_call 19; (with_reducible refine (marchlandlaw10_Ints.calls k _ _ t111 _ _ y114 true _ ?side1 ?side2 ?side3 ?side4 A6.out).mono ?_); (case side1 => repeat (first | exact (Kd.R_reads' HO113.out).2.2 | (with_reducible refine Kd.C_alloc ?_ _) | (with_reducible refine Kd.C_drewN ?_ _) | (with_reducible refine Kd.C_drew ?_))); (case side2 => exact (Kd.R_reads' HO113.out).2.1); (case side3 => repeat (first | exact (Kd.R_reads' HO116.out).2.2 | (with_reducible refine Kd.C_alloc ?_ _) | (with_reducible refine Kd.C_drewN ?_ _) | (with_reducible refine Kd.C_drew ?_))); (case side4 => exact (Kd.R_reads' HO116.out).2.1); rintro e w' ⟨rfl, ⟨nd, rfl⟩⟩; obtain ⟨Ao18, co18, eo18⟩ := Kd.R_slice HO108.out; subst eo18) | (go_at_call 22; (with_reducible refine (pick_Fair.calls _ _ y106 3 4 true _ ?side1 ?side2 A8.out).mono ?_); (case side1 => repeat (first | exact (Kd.R_reads' HO108.out).2.2 | (with_reducible refine Kd.C_alloc ?_ _) | (with_reducible refine Kd.C_drewN ?_ _) | (with_reducible refine Kd.C_drew ?_))); (case side2 => exact (Kd.R_reads' HO108.out).2.1); rintro e w19 ⟨rfl, hb⟩; have n0_ := Aside0.mk (Kd.R_below (by (with_reducible repeat (first | apply Kd.R_alloc | apply Kd.R_drewN | apply Kd.R_drew)); exact HO108.out) hb); have n1_ := Aside0.mk (Kd.R_below (by (with_reducible repeat (first | apply Kd.R_alloc | apply Kd.R_drewN | apply Kd.R_drew)); exact HO113.out) hb); have n2_ := Aside0.mk (Kd.R_below (by (with_reducible repeat (first | apply Kd.R_alloc | apply Kd.R_drewN | apply Kd.R_drew)); exact HO116.out) hb); have n3_ := Aside0.mk (below_step (by repeat (first | (with_reducible first | exact HB.out | apply below_alloc | apply pw_below_drewN | apply below_drew1) | exact HB.out)) hb); clear HO108; clear HO113; clear HO116; clear HB; have HO108 := n0_; have HO113 := n1_; have HO116 := n2_; have HB := n3_; clear n0_ n1_ n2_ n3_; (try clear hb); (try clear hb2); (try clear hk); (try clear hi)) | (go_at_call 22; (with_reducible refine (pick_Fair.calls _ _ y106 3 3 t119 _ ?side1 ?side2 A10.out).mono ?_); (case side1 => repeat (first | exact (Kd.R_reads' HO108.out).2.2 | (with_reducible refine Kd.C_alloc ?_ _) | (with_reducible refine Kd.C_drewN ?_ _) | (with_reducible refine Kd.C_drew ?_))); (case side2 => exact (Kd.R_reads' HO108.out).2.1); rintro e w20 ⟨rfl, hb⟩; have n0_ := Aside0.mk (Kd.R_below (by (with_reducible repeat (first | apply Kd.R_alloc | apply Kd.R_drewN | apply Kd.R_drew)); exact HO108.out) hb); have n1_ := Aside0.mk (Kd.R_below (by (with_reducible repeat (first | apply Kd.R_alloc | apply Kd.R_drewN | apply Kd.R_drew)); exact HO113.out) hb); have n2_ := Aside0.mk (Kd.R_below (by (with_reducible repeat (first | apply Kd.R_alloc | apply Kd.R_drewN | apply Kd.R_drew)); exact HO116.out) hb); have n3_ := Aside0.mk (below_step (by repeat (first | (with_reducible first | exact HB.out | apply below_alloc | apply pw_below_drewN | apply below_drew1) | exact HB.out)) hb); clear HO108; clear HO113; clear HO116; clear HB; have HO108 := n0_; have HO113 := n1_; have HO116 := n2_; have HB := n3_; clear n0_ n1_ n2_ n3_; (try clear hb); (try clear hb2); (try clear hk); (try clear hi)))
          go_ret
          exact ⟨by first | rfl | (simp [errW_none, errW_some] <;> rfl) | (simp [*, errW_none, errW_some] <;> rfl), by repeat (first | (with_reducible first | exact HB.out | apply below_alloc | apply pw_below_drewN | apply below_drew1) | exact HB.out)⟩
        · replace c9 := Bool.eq_false_iff.mpr c9
          subst c9
          have H1 : (some false) = some r := by rw [if_neg (show ¬ (false = true) by decide)] at H; exact H
          clear H
          have H := H1
          clear H1
          obtain rfl := Option.some.inj H
          go_enter Try.func16, Try.ntmps16
          go_wp2_with (first | ((with_reducible refine gate_dst (N := 2) rfl ?_); (try (refine gate_guard (by rfl) ?_; dsimp only)); refine Kd.R_lit (Kd.int .i64) _ 3 ?hg (N := 2) ?hd (xs := ([0, 1, 0, 2, 1] : List Int)) (inner := [.int .i64 0, .int .i64 1, .int .i64 0, .int .i64 2, .int .i64 1]) (ok := fun _ => True) (okp := fun _ => True) ?hr ?hp (fun _ hk => hk) trivial (Below.refl _ _) (Nat.le_refl _) (by simp) ?_; (case hd => rfl); (case hg => rfl); (case hr => first | (go_simp; done) | (go_simp; rfl)); (case hp => exact (Reps.one (show Kd.M (Kd.int .i64) _ _ _ 0 [.int .i64 0] from rfl) (Reps.one (show Kd.M (Kd.int .i64) _ _ _ 1 [.int .i64 1] from rfl) (Reps.one (show Kd.M (Kd.int .i64) _ _ _ 0 [.int .i64 0] from rfl) (Reps.one (show Kd.M (Kd.int .i64) _ _ _ 2 [.int .i64 2] from rfl) (Reps.one (show Kd.M (Kd.int .i64) _ _ _ 1 [.int .i64 1] from rfl) (Reps.none _ _))))))); intro v107 w21 ho22 hb hg_ hnew_; clear hg_ hnew_; (first | rw [← Ny106.out] at ho22 | (simp only [Int.reduceToNat] at ho22; rw [← Ny106.out] at ho22)); have n0_ := Aside0.mk (Kd.R_lower ho22 (below_size (by repeat (first | (with_reducible first | exact HB.out | apply below_alloc | apply pw_below_drewN | apply below_drew1) | exact HB.out)))); have n1_ := Aside0.mk (below_step (by repeat (first | (with_reducible first | exact HB.out | apply below_alloc | apply pw_below_drewN | apply below_drew1) | exact HB.out)) hb); clear HB; have HO108 := n0_; have HB := n1_; clear n0_ n1_; clear hb ho22) | ((with_reducible refine gate_callee (f := 17) rfl ?_); refine goesL_ (some 3) rfl rfl Try.func17 (by kernel_rfl) rfl #[.int .i64 (-1), .int .i64 3] rfl (by (try simp only [List.map_toArray, List.map_cons, List.map_nil]); first | done | rfl | (simp only [List.length_drop, List.length_take]; rfl)) ?_; (with_reducible refine (pick_Who.calls (-1) 3 t109 _ A1.out).mono ?_); rintro e w' ⟨rfl, ⟨nd, rfl⟩⟩; refine ⟨_, rfl, ?_⟩) | (go_at_call 17; (with_reducible refine (pick_Who.calls 5 0 t110 _ A3.out).mono ?_); rintro e w' ⟨rfl, ⟨nd, rfl⟩⟩) | (go_at_call 20; (with_reducible refine (pick_Turns.calls k 2 3 t111 _ A5.out).mono ?_); rintro e w23 ⟨v112, rfl, ho0, hb⟩; have n0_ := Aside0.mk (Kd.R_elder' (by (with_reducible repeat (first | apply Kd.R_alloc | apply Kd.R_drewN | apply Kd.R_drew)); exact HO108.out) (Kd.R_base ho0) hb); have n1_ := Aside0.mk (Kd.R_lower (Kd.R_new' ho0 (Kd.R_lt (by (with_reducible repeat (first | apply Kd.R_alloc | apply Kd.R_drewN | apply Kd.R_drew)); exact HO108.out))) (below_size (by repeat (first | (with_reducible first | exact HB.out | apply below_alloc | apply pw_below_drewN | apply below_drew1) | exact HB.out)))); have n2_ := Aside0.mk (below_step (by repeat (first | (with_reducible first | exact HB.out | apply below_alloc | apply pw_below_drewN | apply below_drew1) | exact HB.out)) hb); clear HO108; clear HB; have HO108 := n0_; have HO113 := n1_; have HB := n2_; clear n0_ n1_ n2_; (try clear hb); (try clear hb2); (try clear hk); (try clear hi); (try clear ho0)) | ((with_reducible refine gate_dst (N := 11) rfl ?_); (try (refine gate_guard (by rfl) ?_; dsimp only)); refine Kd.R_lit (Kd.int .i64) _ 3 ?hg (N := 11) ?hd (xs := ([0, 1, 0] : List Int)) (inner := [.int .i64 0, .int .i64 1, .int .i64 0]) (ok := fun _ => True) (okp := fun _ => True) ?hr ?hp (fun _ hk => hk) trivial (Below.refl _ _) (Nat.le_refl _) (by simp) ?_; (case hd => rfl); (case hg => rfl); (case hr => first | (go_simp; done) | (go_simp; rfl)); (case hp => exact (Reps.one (show Kd.M (Kd.int .i64) _ _ _ 0 [.int .i64 0] from rfl) (Reps.one (show Kd.M (Kd.int .i64) _ _ _ 1 [.int .i64 1] from rfl) (Reps.one (show Kd.M (Kd.int .i64) _ _ _ 0 [.int .i64 0] from rfl) (Reps.none _ _))))); intro v115 w24 ho25 hb hg_ hnew_; clear hg_ hnew_; (first | rw [← Ny114.out] at ho25 | (simp only [Int.reduceToNat] at ho25; rw [← Ny114.out] at ho25)); have n0_ := Aside0.mk (Kd.R_elder' (by (with_reducible repeat (first | apply Kd.R_alloc | apply Kd.R_drewN | apply Kd.R_drew)); exact HO108.out) (Kd.R_base ho25) hb); have n1_ := Aside0.mk (Kd.R_elder' (by (with_reducible repeat (first | apply Kd.R_alloc | apply Kd.R_drewN | apply Kd.R_drew)); exact HO113.out) (Kd.R_base ho25) hb); have n2_ := Aside0.mk (Kd.R_lower (Kd.R_new' (Kd.R_new' ho25 (Kd.R_lt (by (with_reducible repeat (first | apply Kd.R_alloc | apply Kd.R_drewN | apply Kd.R_drew)); exact HO108.out))) (Kd.R_lt (by (with_reducible repeat (first | apply Kd.R_alloc | apply Kd.R_drewN | apply Kd.R_drew)); exact HO113.out))) (below_size (by repeat (first | (with_reducible first | exact HB.out | apply below_alloc | apply pw_below_drewN | apply below_drew1) | exact HB.out)))); have n3_ := Aside0.mk (below_step (by repeat (first | (with_reducible first | exact HB.out | apply below_alloc | apply pw_below_drewN | apply below_drew1) | exact HB.out)) hb); clear HO108; clear HO113; clear HB; have HO108 := n0_; have HO113 := n1_; have HO116 := n2_; have HB := n3_; clear n0_ n1_ n2_ n3_; clear hb ho25; obtain ⟨Ao26, co26, eo26⟩ := Kd.R_slice HO113.out; subst eo26; obtain ⟨Ao27, co27, eo27⟩ := Kd.R_slice HO116.out; subst eo27) | (go_at_call 19; (with_reducible refine (marchlandlaw10_Ints.calls k _ _ t111 _ _ y114 true _ ?side1 ?side2 ?side3 ?side4 A6.out).mono ?_); (case side1 => repeat (first | exact (Kd.R_reads' HO113.out).2.2 | (with_reducible refine Kd.C_alloc ?_ _) | (with_reducible refine Kd.C_drewN ?_ _) | (with_reducible refine Kd.C_drew ?_))); (case side2 => exact (Kd.R_reads' HO113.out).2.1); (case side3 => repeat (first | exact (Kd.R_reads' HO116.out).2.2 | (with_reducible refine Kd.C_alloc ?_ _) | (with_reducible refine Kd.C_drewN ?_ _) | (with_reducible refine Kd.C_drew ?_))); (case side4 => exact (Kd.R_reads' HO116.out).2.1); rintro e w' ⟨rfl, ⟨nd, rfl⟩⟩; obtain ⟨Ao28, co28, eo28⟩ := Kd.R_slice HO108.out; subst eo28) | (go_at_call 22; (with_reducible refine (pick_Fair.calls _ _ y106 3 4 false _ ?side1 ?side2 A8.out).mono ?_); (case side1 => repeat (first | exact (Kd.R_reads' HO108.out).2.2 | (with_reducible refine Kd.C_alloc ?_ _) | (with_reducible refine Kd.C_drewN ?_ _) | (with_reducible refine Kd.C_drew ?_))); (case side2 => exact (Kd.R_reads' HO108.out).2.1); rintro e w29 ⟨rfl, hb⟩; have n0_ := Aside0.mk (Kd.R_below (by (with_reducible repeat (first | apply Kd.R_alloc | apply Kd.R_drewN | apply Kd.R_drew)); exact HO108.out) hb); have n1_ := Aside0.mk (Kd.R_below (by (with_reducible repeat (first | apply Kd.R_alloc | apply Kd.R_drewN | apply Kd.R_drew)); exact HO113.out) hb); have n2_ := Aside0.mk (Kd.R_below (by (with_reducible repeat (first | apply Kd.R_alloc | apply Kd.R_drewN | apply Kd.R_drew)); exact HO116.out) hb); have n3_ := Aside0.mk (below_step (by repeat (first | (with_reducible first | exact HB.out | apply below_alloc | apply pw_below_drewN | apply below_drew1) | exact HB.out)) hb); clear HO108; clear HO113; clear HO116; clear HB; have HO108 := n0_; have HO113 := n1_; have HO116 := n2_; have HB := n3_; clear n0_ n1_ n2_ n3_; (try clear hb); (try clear hb2); (try clear hk); (try clear hi)))
          go_ret
          exact ⟨by first | rfl | (simp [errW_none, errW_some] <;> rfl) | (simp [*, errW_none, errW_some] <;> rfl), by repeat (first | (with_reducible first | exact HB.out | apply below_alloc | apply pw_below_drewN | apply below_drew1) | exact HB.out)⟩
      · replace c7 := Bool.eq_false_iff.mpr c7
        subst c7
        have H1 : (some false) = some r := by rw [if_neg (show ¬ (false = true) by decide)] at H; exact H
        clear H
        have H := H1
        clear H1
        obtain rfl := Option.some.inj H
        go_enter Try.func16, Try.ntmps16
        go_wp2_with (first | ((with_reducible refine gate_dst (N := 2) rfl ?_); (try (refine gate_guard (by rfl) ?_; dsimp only)); refine Kd.R_lit (Kd.int .i64) _ 3 ?hg (N := 2) ?hd (xs := ([0, 1, 0, 2, 1] : List Int)) (inner := [.int .i64 0, .int .i64 1, .int .i64 0, .int .i64 2, .int .i64 1]) (ok := fun _ => True) (okp := fun _ => True) ?hr ?hp (fun _ hk => hk) trivial (Below.refl _ _) (Nat.le_refl _) (by simp) ?_; (case hd => rfl); (case hg => rfl); (case hr => first | (go_simp; done) | (go_simp; rfl)); (case hp => exact (Reps.one (show Kd.M (Kd.int .i64) _ _ _ 0 [.int .i64 0] from rfl) (Reps.one (show Kd.M (Kd.int .i64) _ _ _ 1 [.int .i64 1] from rfl) (Reps.one (show Kd.M (Kd.int .i64) _ _ _ 0 [.int .i64 0] from rfl) (Reps.one (show Kd.M (Kd.int .i64) _ _ _ 2 [.int .i64 2] from rfl) (Reps.one (show Kd.M (Kd.int .i64) _ _ _ 1 [.int .i64 1] from rfl) (Reps.none _ _))))))); intro v107 w30 ho31 hb hg_ hnew_; clear hg_ hnew_; (first | rw [← Ny106.out] at ho31 | (simp only [Int.reduceToNat] at ho31; rw [← Ny106.out] at ho31)); have n0_ := Aside0.mk (Kd.R_lower ho31 (below_size (by repeat (first | (with_reducible first | exact HB.out | apply below_alloc | apply pw_below_drewN | apply below_drew1) | exact HB.out)))); have n1_ := Aside0.mk (below_step (by repeat (first | (with_reducible first | exact HB.out | apply below_alloc | apply pw_below_drewN | apply below_drew1) | exact HB.out)) hb); clear HB; have HO108 := n0_; have HB := n1_; clear n0_ n1_; clear hb ho31) | ((with_reducible refine gate_callee (f := 17) rfl ?_); refine goesL_ (some 3) rfl rfl Try.func17 (by kernel_rfl) rfl #[.int .i64 (-1), .int .i64 3] rfl (by (try simp only [List.map_toArray, List.map_cons, List.map_nil]); first | done | rfl | (simp only [List.length_drop, List.length_take]; rfl)) ?_; (with_reducible refine (pick_Who.calls (-1) 3 t109 _ A1.out).mono ?_); rintro e w' ⟨rfl, ⟨nd, rfl⟩⟩; refine ⟨_, rfl, ?_⟩) | (go_at_call 17; (with_reducible refine (pick_Who.calls 5 0 t110 _ A3.out).mono ?_); rintro e w' ⟨rfl, ⟨nd, rfl⟩⟩) | (go_at_call 20; (with_reducible refine (pick_Turns.calls k 2 3 t111 _ A5.out).mono ?_); rintro e w32 ⟨v112, rfl, ho0, hb⟩; have n0_ := Aside0.mk (Kd.R_elder' (by (with_reducible repeat (first | apply Kd.R_alloc | apply Kd.R_drewN | apply Kd.R_drew)); exact HO108.out) (Kd.R_base ho0) hb); have n1_ := Aside0.mk (Kd.R_lower (Kd.R_new' ho0 (Kd.R_lt (by (with_reducible repeat (first | apply Kd.R_alloc | apply Kd.R_drewN | apply Kd.R_drew)); exact HO108.out))) (below_size (by repeat (first | (with_reducible first | exact HB.out | apply below_alloc | apply pw_below_drewN | apply below_drew1) | exact HB.out)))); have n2_ := Aside0.mk (below_step (by repeat (first | (with_reducible first | exact HB.out | apply below_alloc | apply pw_below_drewN | apply below_drew1) | exact HB.out)) hb); clear HO108; clear HB; have HO108 := n0_; have HO113 := n1_; have HB := n2_; clear n0_ n1_ n2_; (try clear hb); (try clear hb2); (try clear hk); (try clear hi); (try clear ho0)) | ((with_reducible refine gate_dst (N := 11) rfl ?_); (try (refine gate_guard (by rfl) ?_; dsimp only)); refine Kd.R_lit (Kd.int .i64) _ 3 ?hg (N := 11) ?hd (xs := ([0, 1, 0] : List Int)) (inner := [.int .i64 0, .int .i64 1, .int .i64 0]) (ok := fun _ => True) (okp := fun _ => True) ?hr ?hp (fun _ hk => hk) trivial (Below.refl _ _) (Nat.le_refl _) (by simp) ?_; (case hd => rfl); (case hg => rfl); (case hr => first | (go_simp; done) | (go_simp; rfl)); (case hp => exact (Reps.one (show Kd.M (Kd.int .i64) _ _ _ 0 [.int .i64 0] from rfl) (Reps.one (show Kd.M (Kd.int .i64) _ _ _ 1 [.int .i64 1] from rfl) (Reps.one (show Kd.M (Kd.int .i64) _ _ _ 0 [.int .i64 0] from rfl) (Reps.none _ _))))); intro v115 w33 ho34 hb hg_ hnew_; clear hg_ hnew_; (first | rw [← Ny114.out] at ho34 | (simp only [Int.reduceToNat] at ho34; rw [← Ny114.out] at ho34)); have n0_ := Aside0.mk (Kd.R_elder' (by (with_reducible repeat (first | apply Kd.R_alloc | apply Kd.R_drewN | apply Kd.R_drew)); exact HO108.out) (Kd.R_base ho34) hb); have n1_ := Aside0.mk (Kd.R_elder' (by (with_reducible repeat (first | apply Kd.R_alloc | apply Kd.R_drewN | apply Kd.R_drew)); exact HO113.out) (Kd.R_base ho34) hb); have n2_ := Aside0.mk (Kd.R_lower (Kd.R_new' (Kd.R_new' ho34 (Kd.R_lt (by (with_reducible repeat (first | apply Kd.R_alloc | apply Kd.R_drewN | apply Kd.R_drew)); exact HO108.out))) (Kd.R_lt (by (with_reducible repeat (first | apply Kd.R_alloc | apply Kd.R_drewN | apply Kd.R_drew)); exact HO113.out))) (below_size (by repeat (first | (with_reducible first | exact HB.out | apply below_alloc | apply pw_below_drewN | apply below_drew1) | exact HB.out)))); have n3_ := Aside0.mk (below_step (by repeat (first | (with_reducible first | exact HB.out | apply below_alloc | apply pw_below_drewN | apply below_drew1) | exact HB.out)) hb); clear HO108; clear HO113; clear HB; have HO108 := n0_; have HO113 := n1_; have HO116 := n2_; have HB := n3_; clear n0_ n1_ n2_ n3_; clear hb ho34; obtain ⟨Ao35, co35, eo35⟩ := Kd.R_slice HO113.out; subst eo35; obtain ⟨Ao36, co36, eo36⟩ := Kd.R_slice HO116.out; subst eo36) | (go_at_call 19; (with_reducible refine (marchlandlaw10_Ints.calls k _ _ t111 _ _ y114 false _ ?side1 ?side2 ?side3 ?side4 A6.out).mono ?_); (case side1 => repeat (first | exact (Kd.R_reads' HO113.out).2.2 | (with_reducible refine Kd.C_alloc ?_ _) | (with_reducible refine Kd.C_drewN ?_ _) | (with_reducible refine Kd.C_drew ?_))); (case side2 => exact (Kd.R_reads' HO113.out).2.1); (case side3 => repeat (first | exact (Kd.R_reads' HO116.out).2.2 | (with_reducible refine Kd.C_alloc ?_ _) | (with_reducible refine Kd.C_drewN ?_ _) | (with_reducible refine Kd.C_drew ?_))); (case side4 => exact (Kd.R_reads' HO116.out).2.1); rintro e w' ⟨rfl, ⟨nd, rfl⟩⟩))
        go_ret
        exact ⟨by first | rfl | (simp [errW_none, errW_some] <;> rfl) | (simp [*, errW_none, errW_some] <;> rfl), by repeat (first | (with_reducible first | exact HB.out | apply below_alloc | apply pw_below_drewN | apply below_drew1) | exact HB.out)⟩
    · rw [if_neg c4] at H
      have c4b0 : (t110 == (-1)) = false := beq_eq_false_iff_ne.mpr c4
      have c4b1 : (t110 != (-1)) = true := bne_iff_ne.mpr c4
      obtain rfl := Option.some.inj H
      go_enter Try.func16, Try.ntmps16
      go_wp2_with (first | ((with_reducible refine gate_dst (N := 2) rfl ?_); (try (refine gate_guard (by rfl) ?_; dsimp only)); refine Kd.R_lit (Kd.int .i64) _ 3 ?hg (N := 2) ?hd (xs := ([0, 1, 0, 2, 1] : List Int)) (inner := [.int .i64 0, .int .i64 1, .int .i64 0, .int .i64 2, .int .i64 1]) (ok := fun _ => True) (okp := fun _ => True) ?hr ?hp (fun _ hk => hk) trivial (Below.refl _ _) (Nat.le_refl _) (by simp) ?_; (case hd => rfl); (case hg => rfl); (case hr => first | (go_simp; done) | (go_simp; rfl)); (case hp => exact (Reps.one (show Kd.M (Kd.int .i64) _ _ _ 0 [.int .i64 0] from rfl) (Reps.one (show Kd.M (Kd.int .i64) _ _ _ 1 [.int .i64 1] from rfl) (Reps.one (show Kd.M (Kd.int .i64) _ _ _ 0 [.int .i64 0] from rfl) (Reps.one (show Kd.M (Kd.int .i64) _ _ _ 2 [.int .i64 2] from rfl) (Reps.one (show Kd.M (Kd.int .i64) _ _ _ 1 [.int .i64 1] from rfl) (Reps.none _ _))))))); intro v107 w37 ho38 hb hg_ hnew_; clear hg_ hnew_; (first | rw [← Ny106.out] at ho38 | (simp only [Int.reduceToNat] at ho38; rw [← Ny106.out] at ho38)); have n0_ := Aside0.mk (Kd.R_lower ho38 (below_size (by repeat (first | (with_reducible first | exact HB.out | apply below_alloc | apply pw_below_drewN | apply below_drew1) | exact HB.out)))); have n1_ := Aside0.mk (below_step (by repeat (first | (with_reducible first | exact HB.out | apply below_alloc | apply pw_below_drewN | apply below_drew1) | exact HB.out)) hb); clear HB; have HO108 := n0_; have HB := n1_; clear n0_ n1_; clear hb ho38) | ((with_reducible refine gate_callee (f := 17) rfl ?_); refine goesL_ (some 3) rfl rfl Try.func17 (by kernel_rfl) rfl #[.int .i64 (-1), .int .i64 3] rfl (by (try simp only [List.map_toArray, List.map_cons, List.map_nil]); first | done | rfl | (simp only [List.length_drop, List.length_take]; rfl)) ?_; (with_reducible refine (pick_Who.calls (-1) 3 t109 _ A1.out).mono ?_); rintro e w' ⟨rfl, ⟨nd, rfl⟩⟩; refine ⟨_, rfl, ?_⟩) | (go_at_call 17; (with_reducible refine (pick_Who.calls 5 0 t110 _ A3.out).mono ?_); rintro e w' ⟨rfl, ⟨nd, rfl⟩⟩))
      go_ret
      exact ⟨by first | rfl | (simp [errW_none, errW_some] <;> rfl) | (simp [*, errW_none, errW_some] <;> rfl), by repeat (first | (with_reducible first | exact HB.out | apply below_alloc | apply pw_below_drewN | apply below_drew1) | exact HB.out)⟩
  · rw [if_neg c2] at H
    have c2b0 : (t109 == 0) = false := beq_eq_false_iff_ne.mpr c2
    have c2b1 : (t109 != 0) = true := bne_iff_ne.mpr c2
    obtain rfl := Option.some.inj H
    go_enter Try.func16, Try.ntmps16
    go_wp2_with (first | ((with_reducible refine gate_dst (N := 2) rfl ?_); (try (refine gate_guard (by rfl) ?_; dsimp only)); refine Kd.R_lit (Kd.int .i64) _ 3 ?hg (N := 2) ?hd (xs := ([0, 1, 0, 2, 1] : List Int)) (inner := [.int .i64 0, .int .i64 1, .int .i64 0, .int .i64 2, .int .i64 1]) (ok := fun _ => True) (okp := fun _ => True) ?hr ?hp (fun _ hk => hk) trivial (Below.refl _ _) (Nat.le_refl _) (by simp) ?_; (case hd => rfl); (case hg => rfl); (case hr => first | (go_simp; done) | (go_simp; rfl)); (case hp => exact (Reps.one (show Kd.M (Kd.int .i64) _ _ _ 0 [.int .i64 0] from rfl) (Reps.one (show Kd.M (Kd.int .i64) _ _ _ 1 [.int .i64 1] from rfl) (Reps.one (show Kd.M (Kd.int .i64) _ _ _ 0 [.int .i64 0] from rfl) (Reps.one (show Kd.M (Kd.int .i64) _ _ _ 2 [.int .i64 2] from rfl) (Reps.one (show Kd.M (Kd.int .i64) _ _ _ 1 [.int .i64 1] from rfl) (Reps.none _ _))))))); intro v107 w39 ho40 hb hg_ hnew_; clear hg_ hnew_; (first | rw [← Ny106.out] at ho40 | (simp only [Int.reduceToNat] at ho40; rw [← Ny106.out] at ho40)); have n0_ := Aside0.mk (Kd.R_lower ho40 (below_size (by repeat (first | (with_reducible first | exact HB.out | apply below_alloc | apply pw_below_drewN | apply below_drew1) | exact HB.out)))); have n1_ := Aside0.mk (below_step (by repeat (first | (with_reducible first | exact HB.out | apply below_alloc | apply pw_below_drewN | apply below_drew1) | exact HB.out)) hb); clear HB; have HO108 := n0_; have HB := n1_; clear n0_ n1_; clear hb ho40) | ((with_reducible refine gate_callee (f := 17) rfl ?_); refine goesL_ (some 3) rfl rfl Try.func17 (by kernel_rfl) rfl #[.int .i64 (-1), .int .i64 3] rfl (by (try simp only [List.map_toArray, List.map_cons, List.map_nil]); first | done | rfl | (simp only [List.length_drop, List.length_take]; rfl)) ?_; (with_reducible refine (pick_Who.calls (-1) 3 t109 _ A1.out).mono ?_); rintro e w' ⟨rfl, ⟨nd, rfl⟩⟩; refine ⟨_, rfl, ?_⟩))
    go_ret
    exact ⟨by first | rfl | (simp [errW_none, errW_some] <;> rfl) | (simp [*, errW_none, errW_some] <;> rfl), by repeat (first | (with_reducible first | exact HB.out | apply below_alloc | apply pw_below_drewN | apply below_drew1) | exact HB.out)⟩

end Go.Proofs.Ytlcnckbmolefpaa.P
end
section
-- Printed by the session's own turn of the print (wip/tools/print2.sh): some callees are proved by hand.
namespace Go.Proofs.Ytlcnckbmolefpaa.P
open Go.RowKit Go.Proofs.YtlcnckbmolefpaaW.PrintWords Go.Proofs.YtlcnckbmolefpaaW.PrintLast Go.Proofs.YtlcnckbmolefpaaW.PrintMore
attribute [local go_sem] max2_int min2_int max_two min_two max_three min_three max_four min_four   -- for this text's walks alone
set_option linter.unusedVariables false
set_option linter.unusedSimpArgs false

/-! ### marchlandref10_Who: function 18 -/
def marchlandref10_Who.f (a0 : Int) (a1 : Int) : Option (Int) := if a1 < 1 then (some (-1)) else (if (IntKind.u64.wrap (a1)) = 0 then (none) else (some (wrap64 (Int.tmod (IntKind.u64.wrap (a0)) (IntKind.u64.wrap (a1))))))
set_option maxHeartbeats 8000000 in
set_option maxRecDepth 100000 in
theorem marchlandref10_Who.calls (a0 : Int) (a1 : Int) (r : Int) (w : World) (h : marchlandref10_Who.f a0 a1 = some r) :
    Calls Try.prog 18 #[.int .i64 a0, .int .i64 a1] w fun e w' => e = .returned (.int .i64 r) ∧ Drawn0 w w' := by
  have H : (if a1 < 1 then (some (-1)) else (if (IntKind.u64.wrap (a1)) = 0 then (none) else (some (wrap64 (Int.tmod (IntKind.u64.wrap (a0)) (IntKind.u64.wrap (a1))))))) = some r := h
  clear h
  by_cases c3 : a1 < 1
  · rw [if_pos c3] at H
    have c3b0 : decide (a1 < 1) = true := decide_eq_true c3
    clear c3
    obtain rfl := Option.some.inj H
    go_enter Try.func18, Try.ntmps18
    go_wp2
    go_ret
    exact ⟨by first | rfl | (simp; done) | (simp [*]; done), by repeat (first | exact Drawn0.refl _ | apply Drawn0.step)⟩
  · rw [if_neg c3] at H
    have c3b0 : decide (a1 < 1) = false := decide_eq_false c3
    clear c3
    by_cases c4 : (IntKind.u64.wrap (a1)) = 0
    · rw [if_pos c4] at H
      exact absurd H (by simp)
    · rw [if_neg c4] at H
      have c4b0 : ((IntKind.u64.wrap (a1)) == 0) = false := beq_eq_false_iff_ne.mpr c4
      have c4b1 : ((IntKind.u64.wrap (a1)) != 0) = true := bne_iff_ne.mpr c4
      obtain rfl := Option.some.inj H
      go_enter Try.func18, Try.ntmps18
      go_wp2
      go_ret
      exact ⟨by first | rfl | (simp; done) | (simp [*]; done), by repeat (first | exact Drawn0.refl _ | apply Drawn0.step)⟩

end Go.Proofs.Ytlcnckbmolefpaa.P
end
section
-- Printed by the session's own turn of the print (wip/tools/print2.sh): some callees are proved by hand.
namespace Go.Proofs.Ytlcnckbmolefpaa.P
open Go.RowKit Go.Proofs.YtlcnckbmolefpaaW.PrintWords Go.Proofs.YtlcnckbmolefpaaW.PrintLast Go.Proofs.YtlcnckbmolefpaaW.PrintMore
attribute [local go_sem] max2_int min2_int max_two min_two max_three min_three max_four min_four   -- for this text's walks alone
set_option linter.unusedVariables false
set_option linter.unusedSimpArgs false

/-! ### marchlandref10_Fair: function 23 -/
mutual
def marchlandref10_Fair.l0 : Nat → List Int → Int → Int → Int → Option (Bool)
  | 0, _, _, _, _ => none
  | k + 1, x0, x1, x2, x7 => if (wrap64 (x7 + x2)) ≤ (x0.length : Int) then (marchlandref10_Fair.l1 k x0 x1 x2 x7 0) else (some true)
def marchlandref10_Fair.l1 : Nat → List Int → Int → Int → Int → Int → Option (Bool)
  | 0, _, _, _, _, _ => none
  | k + 1, x0, x1, x2, x7, x8 => if x8 < x1 then (marchlandref10_Fair.l2 k x0 x1 x2 x7 x8 false x7) else (marchlandref10_Fair.l0 k x0 x1 x2 (wrap64 (x7 + 1)))
def marchlandref10_Fair.l2 : Nat → List Int → Int → Int → Int → Int → Bool → Int → Option (Bool)
  | 0, _, _, _, _, _, _, _ => none
  | k + 1, x0, x1, x2, x7, x8, x9, x10 => if x10 < (wrap64 (x7 + x2)) then (if x9 = true then (marchlandref10_Fair.l2 k x0 x1 x2 x7 x8 true (wrap64 (x10 + 1))) else (if 0 ≤ x10 then (if x10 < (x0.length : Int) then ((marchlandref10_Who.f (rd x0 x10) x1).bind fun t134 => (marchlandref10_Fair.l2 k x0 x1 x2 x7 x8 (t134 == x8) (wrap64 (x10 + 1)))) else (none)) else (none))) else (if x9 = true then (marchlandref10_Fair.l1 k x0 x1 x2 x7 (wrap64 (x8 + 1))) else (some false))
end
def marchlandref10_Fair.f (k : Nat) (l0 : List Int) (a1 : Int) (a2 : Int) : Option (Bool) := if a2 < 1 then (some false) else (if a2 > (l0.length : Int) then (some true) else (marchlandref10_Fair.l0 k l0 a1 a2 0))
theorem marchlandref10_Fair.mono_l : ∀ k, (∀ y0 y1 y2 y3, LeO (marchlandref10_Fair.l0 k y0 y1 y2 y3) (marchlandref10_Fair.l0 (k + 1) y0 y1 y2 y3)) ∧ (∀ y0 y1 y2 y3 y4, LeO (marchlandref10_Fair.l1 k y0 y1 y2 y3 y4) (marchlandref10_Fair.l1 (k + 1) y0 y1 y2 y3 y4)) ∧ (∀ y0 y1 y2 y3 y4 y5 y6, LeO (marchlandref10_Fair.l2 k y0 y1 y2 y3 y4 y5 y6) (marchlandref10_Fair.l2 (k + 1) y0 y1 y2 y3 y4 y5 y6))
  | 0 => ⟨fun _ _ _ _ r h => by simp [marchlandref10_Fair.l0] at h, fun _ _ _ _ _ r h => by simp [marchlandref10_Fair.l1] at h, fun _ _ _ _ _ _ _ r h => by simp [marchlandref10_Fair.l2] at h⟩
  | k + 1 => by
    obtain ⟨ih0, ih1, ih2⟩ := marchlandref10_Fair.mono_l k
    refine ⟨?_, ?_, ?_⟩
    · intro y0 y1 y2 y3
      unfold marchlandref10_Fair.l0
      repeat' first
      | (with_reducible exact ih0 _ _ _ _)
      | (with_reducible exact ih1 _ _ _ _ _)
      | (with_reducible exact ih2 _ _ _ _ _ _ _)
      | (with_reducible exact LeO.refl _)
      | (with_reducible exact LeO.none _)
      | (with_reducible refine LeO.ite ?_ ?_)
      | (with_reducible refine LeO.bind ?_ (fun _ => ?_))
      | exact ih0 _ _ _ _
      | exact ih1 _ _ _ _ _
      | exact ih2 _ _ _ _ _ _ _
      | exact LeO.none _
      | refine LeO.ite ?_ ?_
      | refine LeO.bind ?_ (fun _ => ?_)
    · intro y0 y1 y2 y3 y4
      unfold marchlandref10_Fair.l1
      repeat' first
      | (with_reducible exact ih0 _ _ _ _)
      | (with_reducible exact ih1 _ _ _ _ _)
      | (with_reducible exact ih2 _ _ _ _ _ _ _)
      | (with_reducible exact LeO.refl _)
      | (with_reducible exact LeO.none _)
      | (with_reducible refine LeO.ite ?_ ?_)
      | (with_reducible refine LeO.bind ?_ (fun _ => ?_))
      | exact ih0 _ _ _ _
      | exact ih1 _ _ _ _ _
      | exact ih2 _ _ _ _ _ _ _
      | exact LeO.none _
      | refine LeO.ite ?_ ?_
      | refine LeO.bind ?_ (fun _ => ?_)
    · intro y0 y1 y2 y3 y4 y5 y6
      unfold marchlandref10_Fair.l2
      repeat' first
      | (with_reducible exact ih0 _ _ _ _)
      | (with_reducible exact ih1 _ _ _ _ _)
      | (with_reducible exact ih2 _ _ _ _ _ _ _)
      | (with_reducible exact LeO.refl _)
      | (with_reducible exact LeO.none _)
      | (with_reducible refine LeO.ite ?_ ?_)
      | (with_reducible refine LeO.bind ?_ (fun _ => ?_))
      | exact ih0 _ _ _ _
      | exact ih1 _ _ _ _ _
      | exact ih2 _ _ _ _ _ _ _
      | exact LeO.none _
      | refine LeO.ite ?_ ?_
      | refine LeO.bind ?_ (fun _ => ?_)
theorem marchlandref10_Fair.mono : ∀ a0 a1 a2 k, LeO (marchlandref10_Fair.f k a0 a1 a2) (marchlandref10_Fair.f (k + 1) a0 a1 a2) := by
  intro a0 a1 a2 k
  obtain ⟨ih0, ih1, ih2⟩ := marchlandref10_Fair.mono_l k
  unfold marchlandref10_Fair.f
  repeat' first
      | (with_reducible exact ih0 _ _ _ _)
      | (with_reducible exact ih1 _ _ _ _ _)
      | (with_reducible exact ih2 _ _ _ _ _ _ _)
      | (with_reducible exact LeO.refl _)
      | (with_reducible exact LeO.none _)
      | (with_reducible refine LeO.ite ?_ ?_)
      | (with_reducible refine LeO.bind ?_ (fun _ => ?_))
      | exact ih0 _ _ _ _
      | exact ih1 _ _ _ _ _
      | exact ih2 _ _ _ _ _ _ _
      | exact LeO.none _
      | refine LeO.ite ?_ ?_
      | refine LeO.bind ?_ (fun _ => ?_)
set_option maxHeartbeats 8000000 in
set_option maxRecDepth 100000 in
theorem marchlandref10_Fair.calls (k : Nat) (A0 : Option Addr) (c0 : Nat) (l0 : List Int) (a1 : Int) (a2 : Int) (r : Bool) (w : World) (hr0 : Kd.C (Kd.int .i64) w A0 l0.length l0) (hc0 : l0.length ≤ c0) (h : marchlandref10_Fair.f k l0 a1 a2 = some r) :
    Calls Try.prog 23 #[.slice A0 l0.length c0, .int .i64 a1, .int .i64 a2] w fun e w' => e = .returned (.bool r) ∧ Drawn0 w w' := by
  have HR0 := Aside0.mk hr0
  have HC0 := Aside0.mk hc0
  clear hr0 hc0
  have H : (if a2 < 1 then (some false) else (if a2 > (l0.length : Int) then (some true) else (marchlandref10_Fair.l0 k l0 a1 a2 0))) = some r := h
  clear h
  by_cases c4 : a2 < 1
  · rw [if_pos c4] at H
    have c4b0 : decide (a2 < 1) = true := decide_eq_true c4
    clear c4
    obtain rfl := Option.some.inj H
    go_enter Try.func23, Try.ntmps23
    go_wp2
    go_ret
    exact ⟨by first | rfl | (simp; done) | (simp [*]; done), by repeat (first | exact Drawn0.refl _ | apply Drawn0.step)⟩
  · rw [if_neg c4] at H
    have c4b0 : decide (a2 < 1) = false := decide_eq_false c4
    clear c4
    by_cases c5 : a2 > (l0.length : Int)
    · rw [if_pos c5] at H
      have c5b0 : decide ((l0.length : Int) < a2) = true := decide_eq_true c5
      clear c5
      obtain rfl := Option.some.inj H
      go_enter Try.func23, Try.ntmps23
      go_wp2
      go_ret
      exact ⟨by first | rfl | (simp; done) | (simp [*]; done), by repeat (first | exact Drawn0.refl _ | apply Drawn0.step)⟩
    · rw [if_neg c5] at H
      have c5b0 : decide ((l0.length : Int) < a2) = false := decide_eq_false c5
      clear c5
      have H' := Aside0.mk H
      clear H
      go_enter Try.func23, Try.ntmps23
      go_wp2
      go_loopg [7] k (fun kq v7 w' => ∃ (x7_1 : Int), v7 = .int .i64 x7_1 ∧ Aside0 (marchlandref10_Fair.l0 kq l0 a1 a2 x7_1 = some r) ∧ Aside0 (kq ≤ k) ∧ Drawn0 w w')
      case atStart => exact ⟨(0), (by first | rfl | (simp; done) | (simp [*]; done)), H', ⟨Nat.le_refl _⟩, by repeat (first | exact Drawn0.refl _ | apply Drawn0.step)⟩
      case round =>
        clear H'
        try clear c2
        try clear p2
        try clear c4
        try clear c4b0
        try clear c5
        try clear c5b0
        obtain ⟨x7_1, rfl, HA, HK1, ⟨m1, rfl⟩⟩ := hrel
        cases gk with
        | zero => exact absurd HA.out (by simp [marchlandref10_Fair.l0])
        | succ k1 =>
          have H := HA.out
          clear HA
          simp only [marchlandref10_Fair.l0] at H
          by_cases c6 : (wrap64 (x7_1 + a2)) ≤ (l0.length : Int)
          · rw [if_pos c6] at H
            have c6b0 : decide ((wrap64 (x7_1 + a2)) ≤ (l0.length : Int)) = true := decide_eq_true c6
            clear c6
            have H' := Aside0.mk H
            clear H
            go_wp2
            go_loopg [8] k1 (fun kq v8 w' => ∃ (x8_2 : Int), v8 = .int .i64 x8_2 ∧ Aside0 (marchlandref10_Fair.l1 kq l0 a1 a2 x7_1 x8_2 = some r) ∧ Aside0 (kq ≤ k1) ∧ Drawn0 w w')
            case atStart => exact ⟨(0), (by first | rfl | (simp; done) | (simp [*]; done)), H', ⟨Nat.le_refl _⟩, by repeat (first | exact Drawn0.refl _ | apply Drawn0.step)⟩
            case round =>
              clear H'
              try clear c2
              try clear p2
              try clear c4
              try clear c4b0
              try clear c5
              try clear c5b0
              try clear c6
              try clear c6b0
              try clear p6
              try clear p2
              obtain ⟨x8_2, rfl, HA, HK2, ⟨m2, rfl⟩⟩ := hrel
              cases gk with
              | zero => exact absurd HA.out (by simp [marchlandref10_Fair.l1])
              | succ k2 =>
                have H := HA.out
                clear HA
                simp only [marchlandref10_Fair.l1] at H
                by_cases c7 : x8_2 < a1
                · rw [if_pos c7] at H
                  have c7b0 : decide (x8_2 < a1) = true := decide_eq_true c7
                  clear c7
                  have H' := Aside0.mk H
                  clear H
                  go_wp2
                  go_loopg [9, 10] k2 (fun kq v9 v10 w' => ∃ (x9_3 : Bool) (x10_3 : Int), v9 = .bool x9_3 ∧ v10 = .int .i64 x10_3 ∧ Aside0 (marchlandref10_Fair.l2 kq l0 a1 a2 x7_1 x8_2 x9_3 x10_3 = some r) ∧ Aside0 (kq ≤ k2) ∧ Drawn0 w w')
                  case atStart => exact ⟨(false), (x7_1), (by first | rfl | (simp; done) | (simp [*]; done)), (by first | rfl | (simp; done) | (simp [*]; done)), H', ⟨Nat.le_refl _⟩, by repeat (first | exact Drawn0.refl _ | apply Drawn0.step)⟩
                  case round =>
                    clear H'
                    try clear c2
                    try clear p2
                    try clear c4
                    try clear c4b0
                    try clear c5
                    try clear c5b0
                    try clear c6
                    try clear c6b0
                    try clear p6
                    try clear c7
                    try clear c7b0
                    try clear p2
                    try clear p6
                    obtain ⟨x9_3, x10_3, rfl, rfl, HA, HK3, ⟨m3, rfl⟩⟩ := hrel
                    cases gk with
                    | zero => exact absurd HA.out (by simp [marchlandref10_Fair.l2])
                    | succ k3 =>
                      have H := HA.out
                      clear HA
                      simp only [marchlandref10_Fair.l2] at H
                      by_cases c8 : x10_3 < (wrap64 (x7_1 + a2))
                      · rw [if_pos c8] at H
                        have c8b0 : decide (x10_3 < (wrap64 (x7_1 + a2))) = true := decide_eq_true c8
                        clear c8
                        by_cases c9 : x9_3 = true
                        · subst c9
                          have H1 : (marchlandref10_Fair.l2 k3 l0 a1 a2 x7_1 x8_2 true (wrap64 (x10_3 + 1))) = some r := by rw [if_pos rfl] at H; exact H
                          clear H
                          have H := H1
                          clear H1
                          have H' := Aside0.mk H
                          clear H
                          go_wp2
                          go_roundg k3
                          case measure => have := HK1.out; have := HK2.out; have := HK3.out; omega
                          case rel => exact ⟨(true), (wrap64 (x10_3 + 1)), (by first | rfl | (simp; done) | (simp [*]; done)), (by first | rfl | (simp; done) | (simp [*]; done)), H', ⟨by have := HK1.out; have := HK2.out; have := HK3.out; omega⟩, by repeat (first | exact Drawn0.refl _ | apply Drawn0.step)⟩
                        · replace c9 := Bool.eq_false_iff.mpr c9
                          subst c9
                          have H1 : (if 0 ≤ x10_3 then (if x10_3 < (l0.length : Int) then ((marchlandref10_Who.f (rd l0 x10_3) a1).bind fun t134 => (marchlandref10_Fair.l2 k3 l0 a1 a2 x7_1 x8_2 (t134 == x8_2) (wrap64 (x10_3 + 1)))) else (none)) else (none)) = some r := by rw [if_neg (show ¬ (false = true) by decide)] at H; exact H
                          clear H
                          have H := H1
                          clear H1
                          by_cases c10 : 0 ≤ x10_3
                          · rw [if_pos c10] at H
                            have c10b0 : decide (0 ≤ x10_3) = true := decide_eq_true c10
                            clear c10
                            by_cases c11 : x10_3 < (l0.length : Int)
                            · rw [if_pos c11] at H
                              have c11b0 : decide (x10_3 < (l0.length : Int)) = true := decide_eq_true c11
                              clear c11
                              replace H := Option.bind_eq_some_iff.mp H
                              obtain ⟨t134, A120, H⟩ := H
                              replace H : (marchlandref10_Fair.l2 k3 l0 a1 a2 x7_1 x8_2 (t134 == x8_2) (wrap64 (x10_3 + 1))) = some r := H
                              have A12 := Aside0.mk A120
                              clear A120
                              have H' := Aside0.mk H
                              clear H
                              have p133 : 0 ≤ (x10_3 : Int) := of_decide_eq_true (by first | (with_reducible assumption) | assumption)
                              have q133 : x10_3 < (l0.length : Int) := of_decide_eq_true (by first | (with_reducible assumption) | assumption)
                              obtain ⟨ad133, e133, hx133_0⟩ := Kd.at_int HR0.out x10_3 p133 q133
                              cases e133
                              replace p133 := eq_true p133
                              replace q133 := eq_true q133
                              go_wp2_with (first | (go_at_call 18; (with_reducible refine (marchlandref10_Who.calls (rd l0 x10_3) a1 t134 _ A12.out).mono ?_); rintro e w' ⟨rfl, ⟨nd, rfl⟩⟩))
                              go_roundg k3
                              case measure => have := HK1.out; have := HK2.out; have := HK3.out; omega
                              case rel => exact ⟨((t134 == x8_2)), (wrap64 (x10_3 + 1)), (by first | rfl | (simp; done) | (simp [*]; done)), (by first | rfl | (simp; done) | (simp [*]; done)), H', ⟨by have := HK1.out; have := HK2.out; have := HK3.out; omega⟩, by repeat (first | exact Drawn0.refl _ | apply Drawn0.step)⟩
                            · rw [if_neg c11] at H
                              exact absurd H (by simp)
                          · rw [if_neg c10] at H
                            exact absurd H (by simp)
                      · rw [if_neg c8] at H
                        have c8b0 : decide (x10_3 < (wrap64 (x7_1 + a2))) = false := decide_eq_false c8
                        clear c8
                        by_cases c13 : x9_3 = true
                        · subst c13
                          have H1 : (marchlandref10_Fair.l1 k3 l0 a1 a2 x7_1 (wrap64 (x8_2 + 1))) = some r := by rw [if_pos rfl] at H; exact H
                          clear H
                          have H := H1
                          clear H1
                          have H' := Aside0.mk H
                          clear H
                          go_wp2
                          go_roundg k3
                          case measure => have := HK1.out; have := HK2.out; have := HK3.out; omega
                          case rel => exact ⟨(wrap64 (x8_2 + 1)), (by first | rfl | (simp; done) | (simp [*]; done)), H', ⟨by have := HK1.out; have := HK2.out; have := HK3.out; omega⟩, by repeat (first | exact Drawn0.refl _ | apply Drawn0.step)⟩
                        · replace c13 := Bool.eq_false_iff.mpr c13
                          subst c13
                          have H1 : (some false) = some r := by rw [if_neg (show ¬ (false = true) by decide)] at H; exact H
                          clear H
                          have H := H1
                          clear H1
                          obtain rfl := Option.some.inj H
                          go_wp2
                          go_ret
                          exact ⟨by first | rfl | (simp; done) | (simp [*]; done), by repeat (first | exact Drawn0.refl _ | apply Drawn0.step)⟩
                · rw [if_neg c7] at H
                  have c7b0 : decide (x8_2 < a1) = false := decide_eq_false c7
                  clear c7
                  have H' := Aside0.mk H
                  clear H
                  go_wp2
                  go_roundg k2
                  case measure => have := HK1.out; have := HK2.out; omega
                  case rel => exact ⟨(wrap64 (x7_1 + 1)), (by first | rfl | (simp; done) | (simp [*]; done)), H', ⟨by have := HK1.out; have := HK2.out; omega⟩, by repeat (first | exact Drawn0.refl _ | apply Drawn0.step)⟩
          · rw [if_neg c6] at H
            have c6b0 : decide ((wrap64 (x7_1 + a2)) ≤ (l0.length : Int)) = false := decide_eq_false c6
            clear c6
            obtain rfl := Option.some.inj H
            go_wp2
            go_ret
            exact ⟨by first | rfl | (simp; done) | (simp [*]; done), by repeat (first | exact Drawn0.refl _ | apply Drawn0.step)⟩

end Go.Proofs.Ytlcnckbmolefpaa.P
end
