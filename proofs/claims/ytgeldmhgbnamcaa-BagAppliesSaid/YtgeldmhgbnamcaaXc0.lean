/- Walks and laws of several statements of this seat, joined into one text; no condition. -/
import Derived.Test.YtgeldmhgbnamcaaProg
import Derived.Below
import Derived.Deep.Draws
import Derived.Deep.AppendLies
import Derived.Maps.AppendAt
import Derived.OwnWalk
import Derived.Laws.BytesArg
import Derived.Laws.MakeOwn
import Derived.Laws.OwnMore
import Derived.Deep.OwnRows
import Derived.Tactics
import Derived.Lib.ConvBytes
import Derived.Laws.Slices
import Derived.WalkKit
import Derived.KernelRfl
import Derived.RowKit3
import Derived.Deep.LoopGhost
import Derived.Deep.QuietTactic
import Derived.BigQuiet
import Derived.WideLaws
import Derived.Deep.DeepCutAuto
import Derived.Deep.CutBlock
import Derived.Deep.RegionHeld3
import Derived.Laws.Rows
import Derived.Lib.AppendStr
import Derived.ArgAppend
import Derived.Laws.IdiomCopy
import Derived.OrdersHeld
import Derived.Laws.BitsLemmas
import Derived.RowKit
import Derived.Laws.StructEq
import Derived.Lib.BufferMore
import Derived.Deep.Slices
import Derived.SizedLaws
import Derived.OpenShut
import Derived.IntWalk
import Derived.Outline
import Derived.Test.YtgeldmhgbnamcaaXa0
import Derived.Test.YtgeldmhgbnamcaaXa1
import Derived.Test.YtgeldmhgbnamcaaXa2
import Derived.Test.YtgeldmhgbnamcaaXa6
import Derived.Test.YtgeldmhgbnamcaaXa5
import Derived.Test.YtgeldmhgbnamcaaXa7
section
-- Printed by the session's own turn of the print (wip/tools/print2.sh): some callees are proved by hand.
namespace Go.Proofs.Ytgeldmhgbnamcaa.P
open Go.RowKit Go.Proofs.YtgeldmhgbnamcaaW.PrintWords Go.Proofs.YtgeldmhgbnamcaaW.PrintLast Go.Proofs.YtgeldmhgbnamcaaW.PrintMore
attribute [local go_sem] max2_int min2_int max_two min_two max_three min_three max_four min_four   -- for this text's walks alone
set_option linter.unusedVariables false
set_option linter.unusedSimpArgs false
attribute [local go_sem high] eqA40
/-! ### marchlandref03_Same: function 18 -/
def marchlandref03_Same.l0 : Nat → List (S40) → List (S40) → Int → Option (Bool)
 | 0, _, _, _ => none
 | k + 1, x0, x1, x5 => if x5 < (x0.length : Int) then (if 0 ≤ x5 then (if x5 < (x1.length : Int) then (if (!(((rd_T40 x0 x5).f0) == ((rd_T40 x1 x5).f0)) || (!(((rd_T40 x0 x5).f1) == ((rd_T40 x1 x5).f1)) || (!(((rd_T40 x0 x5).f2) == ((rd_T40 x1 x5).f2))))) = true then (some false) else (marchlandref03_Same.l0 k x0 x1 (wrap64 (x5 + 1)))) else (none)) else (none)) else (some true)
def marchlandref03_Same.f (k : Nat) (l0 : List (S40)) (l1 : List (S40)) : Option (Bool) := if (l0.length : Int) = (l1.length : Int) then (marchlandref03_Same.l0 k l0 l1 0) else (some false)
set_option maxHeartbeats 8000000 in
set_option maxRecDepth 100000 in
theorem marchlandref03_Same.calls (k : Nat) (A0 : Option Addr) (c0 : Nat) (l0 : List (S40)) (A1 : Option Addr) (c1 : Nat) (l1 : List (S40)) (r : Bool) (w : World) (hr0 : Kd.C k40 w A0 l0.length l0) (hc0 : l0.length ≤ c0) (hr1 : Kd.C k40 w A1 l1.length l1) (hc1 : l1.length ≤ c1) (h : marchlandref03_Same.f k l0 l1 = some r) :
  Calls Try.prog 18 #[.slice A0 l0.length c0, .slice A1 l1.length c1] w fun e w' => e = .returned (.bool r) ∧ Drawn0 w w' := by
 have hu40 := Try.underlying40
 have HR0 := Aside0.mk hr0
 have HC0 := Aside0.mk hc0
 clear hr0 hc0
 have HR1 := Aside0.mk hr1
 have HC1 := Aside0.mk hc1
 clear hr1 hc1
 have H : (if (l0.length : Int) = (l1.length : Int) then (marchlandref03_Same.l0 k l0 l1 0) else (some false)) = some r := h
 clear h
 by_cases c3 : (l0.length : Int) = (l1.length : Int)
 ·rw [if_pos c3] at H
  have c3b0 : ((l0.length : Int) == (l1.length : Int)) = true := beq_iff_eq.mpr c3
  have c3b1 : ((l0.length : Int) != (l1.length : Int)) = false := bne_eq_false_iff_eq.mpr c3
  have c3b2 : (l0.length == l1.length) = true := by first | simpa using c3 | (simp at c3 ⊢; omega)
  clear c3
  have H' := Aside0.mk H
  clear H
  go_enter Try.func18, Try.ntmps18
  go_wp2
  repeat (go_quiet (fail); try go_wp2)
  go_loopg [5] k (fun kq v5 w' => ∃ (x5_1 : Int), v5 = .int .i64 x5_1 ∧ Aside0 (marchlandref03_Same.l0 kq l0 l1 x5_1 = some r) ∧ Aside0 (kq ≤ k) ∧ Drawn0 w w')
  case atStart => exact ⟨(0), (by first | rfl | (simp; done) | (simp [*]; done)), H', ⟨Nat.le_refl _⟩, by repeat (first | exact Drawn0.refl _ | apply Drawn0.step)⟩
  case round =>
   clear H'
   (try clear c1); (try clear p2); (try clear c3); (try clear c3b0); (try clear c3b1); (try clear c3b2)
   obtain ⟨x5_1, rfl, HA, HK1, ⟨m1, rfl⟩⟩ := hrel
   cases gk with
   | zero => exact absurd HA.out (by simp [marchlandref03_Same.l0])
   | succ k1 =>
    have H := HA.out
    clear HA
    simp only [marchlandref03_Same.l0] at H
    by_cases c4 : x5_1 < (l0.length : Int)
    ·rw [if_pos c4] at H
     have c4b0 : decide (x5_1 < (l0.length : Int)) = true := decide_eq_true c4
     clear c4
     by_cases c5 : 0 ≤ x5_1
     ·rw [if_pos c5] at H
      have c5b0 : decide (0 ≤ x5_1) = true := decide_eq_true c5
      clear c5
      by_cases c6 : x5_1 < (l1.length : Int)
      ·rw [if_pos c6] at H
       have c6b0 : decide (x5_1 < (l1.length : Int)) = true := decide_eq_true c6
       clear c6
       by_cases c7 : (!(((rd_T40 l0 x5_1).f0) == ((rd_T40 l1 x5_1).f0)) || (!(((rd_T40 l0 x5_1).f1) == ((rd_T40 l1 x5_1).f1)) || (!(((rd_T40 l0 x5_1).f2) == ((rd_T40 l1 x5_1).f2))))) = true
       ·rw [if_pos c7] at H
        have c7b0 : (!(((rd_T40 l0 x5_1).f0) == ((rd_T40 l1 x5_1).f0)) || (!(((rd_T40 l0 x5_1).f1) == ((rd_T40 l1 x5_1).f1)) || (!(((rd_T40 l0 x5_1).f2) == ((rd_T40 l1 x5_1).f2))))) = true := c7
        clear c7
        obtain rfl := Option.some.inj H
        have p249 : 0 ≤ (x5_1 : Int) := of_decide_eq_true (by assumption)
        have q249 : x5_1 < (l0.length : Int) := of_decide_eq_true (by assumption)
        obtain ⟨ad249, e249, hx249_0, hx249_1, hx249_2⟩ := at_T40 HR0.out x5_1 p249 q249
        cases e249
        replace p249 := eq_true p249
        replace q249 := eq_true q249
        have p250 : 0 ≤ (x5_1 : Int) := of_decide_eq_true (by assumption)
        have q250 : x5_1 < (l1.length : Int) := of_decide_eq_true (by assumption)
        obtain ⟨ad250, e250, hx250_0, hx250_1, hx250_2⟩ := at_T40 HR1.out x5_1 p250 q250
        cases e250
        replace p250 := eq_true p250
        replace q250 := eq_true q250
        go_wp2
        repeat (go_quiet (fail); try go_wp2)
        go_ret
        exact ⟨by first | rfl | (simp; done) | (simp [*]; done), by repeat (first | exact Drawn0.refl _ | apply Drawn0.step)⟩
       ·rw [if_neg c7] at H
        have c7b0 : (!(((rd_T40 l0 x5_1).f0) == ((rd_T40 l1 x5_1).f0)) || (!(((rd_T40 l0 x5_1).f1) == ((rd_T40 l1 x5_1).f1)) || (!(((rd_T40 l0 x5_1).f2) == ((rd_T40 l1 x5_1).f2))))) = false := by simpa using c7
        clear c7
        have H' := Aside0.mk H
        clear H
        have p249 : 0 ≤ (x5_1 : Int) := of_decide_eq_true (by assumption)
        have q249 : x5_1 < (l0.length : Int) := of_decide_eq_true (by assumption)
        obtain ⟨ad249, e249, hx249_0, hx249_1, hx249_2⟩ := at_T40 HR0.out x5_1 p249 q249
        cases e249
        replace p249 := eq_true p249
        replace q249 := eq_true q249
        have p250 : 0 ≤ (x5_1 : Int) := of_decide_eq_true (by assumption)
        have q250 : x5_1 < (l1.length : Int) := of_decide_eq_true (by assumption)
        obtain ⟨ad250, e250, hx250_0, hx250_1, hx250_2⟩ := at_T40 HR1.out x5_1 p250 q250
        cases e250
        replace p250 := eq_true p250
        replace q250 := eq_true q250
        go_wp2
        repeat (go_quiet (fail); try go_wp2)
        go_roundg k1
        case measure => have := HK1.out; omega
        case rel => exact ⟨(wrap64 (x5_1 + 1)), (by first | rfl | (simp; done) | (simp [*]; done)), H', ⟨by have := HK1.out; omega⟩, by repeat (first | exact Drawn0.refl _ | apply Drawn0.step)⟩
      ·rw [if_neg c6] at H
       exact absurd H (by simp)
     ·rw [if_neg c5] at H
      exact absurd H (by simp)
    ·rw [if_neg c4] at H
     have c4b0 : decide (x5_1 < (l0.length : Int)) = false := decide_eq_false c4
     clear c4
     obtain rfl := Option.some.inj H
     go_wp2
     repeat (go_quiet (fail); try go_wp2)
     go_ret
     exact ⟨by first | rfl | (simp; done) | (simp [*]; done), by repeat (first | exact Drawn0.refl _ | apply Drawn0.step)⟩
 ·rw [if_neg c3] at H
  have c3b0 : ((l0.length : Int) == (l1.length : Int)) = false := beq_eq_false_iff_ne.mpr c3
  have c3b1 : ((l0.length : Int) != (l1.length : Int)) = true := bne_iff_ne.mpr c3
  have c3b2 : (l0.length == l1.length) = false := by first | simpa using c3 | (simp at c3 ⊢; omega)
  obtain rfl := Option.some.inj H
  go_enter Try.func18, Try.ntmps18
  go_wp2
  repeat (go_quiet (fail); try go_wp2)
  go_ret
  exact ⟨by first | rfl | (simp; done) | (simp [*]; done), by repeat (first | exact Drawn0.refl _ | apply Drawn0.step)⟩
end Go.Proofs.Ytgeldmhgbnamcaa.P
end
section
-- Printed by the session's own turn of the print (wip/tools/print2.sh): some callees are proved by hand.
namespace Go.Proofs.Ytgeldmhgbnamcaa.P
open Go.RowKit Go.Proofs.YtgeldmhgbnamcaaW.PrintWords Go.Proofs.YtgeldmhgbnamcaaW.PrintLast Go.Proofs.YtgeldmhgbnamcaaW.PrintMore
attribute [local go_sem] max2_int min2_int max_two min_two max_three min_three max_four min_four   -- for this text's walks alone
set_option linter.unusedVariables false
set_option linter.unusedSimpArgs false
/-! ### marchlandlaw03_From: function 19 -/
def marchlandlaw03_From.l0 : Nat → List (S50) → List (S40) → Int → Option ((List (S40)))
 | 0, _, _, _ => none
 | k + 1, x0, x3, x4 => if x4 < (x0.length : Int) then (if 0 ≤ x4 then (if x3.length < 5864062014805 then (marchlandlaw03_From.l0 k x0 (x3 ++ [(⟨(rd_T50 x0 x4).f0, (rd_T50 x0 x4).f1, (rd_T50 x0 x4).f2⟩ : S40)]) (wrap64 (x4 + 1))) else (none)) else (none)) else (some x3)
def marchlandlaw03_From.f (k : Nat) (l0 : List (S50)) : Option ((List (S40))) := marchlandlaw03_From.l0 k l0 ([] : List (S40)) 0
def marchlandlaw03_From.T5 : Bool × List (List Nat × List Nat) := (true, [([], []), ([], []), ([], []), ([1, 2], [1, 2]), ([3], [3]), ([4], [4]), ([], []), ([], []), ([6, 7], [6, 7]), ([8], [8]), ([9], [9]), ([], []), ([], []), ([11, 12], [11, 12]), ([13], [13]), ([14], [14]), ([5, 10, 15], [5, 10, 15]), ([16], [16]), ([0, 17], [0, 17]), ([18, 18, 0, 1, 2, 3, 4, 5, 6, 7, 8, 9, 10, 11, 12, 13, 14, 15, 16, 17, 18], [0, 18])])
def marchlandlaw03_From.B5 : List Nat := [0, 0, 0, 6, 14, 30, 0, 0, 192, 448, 960, 0, 0, 6144, 14336, 30720, 65534, 131070, 262143, 524287]
theorem marchlandlaw03_From.tab5 : rtab .any (opsOf Try.f19 5) = marchlandlaw03_From.T5 := by kernel_rfl
theorem marchlandlaw03_From.bits5 : waitsOk marchlandlaw03_From.T5.2 marchlandlaw03_From.B5 = true := by kernel_rfl
set_option maxHeartbeats 8000000 in
set_option maxRecDepth 100000 in
theorem marchlandlaw03_From.calls (k : Nat) (A0 : Option Addr) (c0 : Nat) (l0 : List (S50)) (r : List (S40)) (w : World) (hr0 : Kd.C k50 w A0 l0.length l0) (hc0 : l0.length ≤ c0) (h : marchlandlaw03_From.f k l0 = some r) :
  Calls Try.prog 19 #[.slice A0 l0.length c0] w fun e w' => ∃ v0_ : Value, e = .returned (v0_) ∧ Kd.R k40 40 w' w.heap.size (fun _ => True) v0_ r ∧ Below w.heap.size w w' := by
 have hu40 := Try.underlying40
 have HR0 := Aside0.mk hr0
 have HC0 := Aside0.mk hc0
 clear hr0 hc0
 have HB := Aside0.mk (Below.refl w.heap.size w)
 have H : (marchlandlaw03_From.l0 k l0 ([] : List (S40)) 0) = some r := h
 clear h
 have H' := Aside0.mk H
 clear H
 go_enter Try.func19, Try.ntmps19
 go_wp2
 go_loopg [3, 4] k (fun kq v3 v4 w' => ∃ (x3_1 : List (S40)) (x4_1 : Int), v4 = .int .i64 x4_1 ∧ Aside0 (marchlandlaw03_From.l0 kq l0 x3_1 x4_1 = some r) ∧ Aside0 (kq ≤ k) ∧ Aside0 (Kd.R k40 40 w' w.heap.size (fun _ => True) v3 x3_1) ∧ Aside0 (Below w.heap.size w w'))
 case atStart => exact ⟨(([] : List (S40))), (0), (by first | rfl | (simp; done) | (simp [*]; done)), H', ⟨Nat.le_refl _⟩, ⟨by first | exact Kd.R_nil _ _ _ _ _ | exact Kd.N_nil _ _ _ _ _ | exact Kd.V_nil _ _ _ _ _ | exact Kd.Q_nil _ _ _ _ _ | exact Kd.S_nil _ _ _ _ _⟩, ⟨by repeat (first | (with_reducible first | exact HB.out | apply below_alloc | apply pw_below_drewN | apply below_drew1) | exact HB.out)⟩⟩
 case round =>
  clear H'
  (try clear c1)
  obtain ⟨x3_1, x4_1, rfl, HA, HK1, HO_3, HB⟩ := hrel
  cases gk with
  | zero => exact absurd HA.out (by simp [marchlandlaw03_From.l0])
  | succ k1 =>
   have H := HA.out
   clear HA
   simp only [marchlandlaw03_From.l0] at H
   by_cases c2 : x4_1 < (l0.length : Int)
   ·rw [if_pos c2] at H
    have c2b0 : decide (x4_1 < (l0.length : Int)) = true := decide_eq_true c2
    clear c2
    by_cases c3 : 0 ≤ x4_1
    ·rw [if_pos c3] at H
     have c3b0 : decide (0 ≤ x4_1) = true := decide_eq_true c3
     clear c3
     by_cases c4 : x3_1.length < 5864062014805
     ·rw [if_pos c4] at H
      have LMc4 := Aside0.mk c4
      clear c4
      obtain ⟨y254, hy254⟩ : ∃ y_ : List (S40), y_ = (x3_1 ++ [(⟨(rd_T50 l0 x4_1).f0, (rd_T50 l0 x4_1).f1, (rd_T50 l0 x4_1).f2⟩ : S40)]) := ⟨_, rfl⟩
      replace H : (marchlandlaw03_From.l0 k1 l0 y254 (wrap64 (x4_1 + 1))) = some r := by first | (rw [hy254]; with_reducible exact H) | (have H2_ := (Option.bind_some _ _).symm.trans H; rw [hy254]; with_reducible exact H2_) | (have H2_ := (Option.bind_some _ _).symm.trans H; with_reducible exact H2_) | with_reducible exact H | (rw [hy254]; exact H) | exact H
      have Ny254 := Aside0.mk hy254
      clear hy254
      have H' := Aside0.mk H
      clear H
      try go_wp2
      have n0_ := Aside0.mk (Kd.R_drew HO_3.out)
      have n1_ := Aside0.mk (below_drew1 HB.out)
      clear HO_3
      clear HB
      have HO_3 := n0_
      have HB := n1_
      clear n0_ n1_
      have p251 : 0 ≤ (x4_1 : Int) := of_decide_eq_true (by assumption)
      have q251 : x4_1 < (l0.length : Int) := of_decide_eq_true (by assumption)
      obtain ⟨ad251, e251, hx251_0, hx251_1, hx251_2⟩ := at_T50 HR0.out x4_1 p251 q251
      have hw251_2 := hx251_2
      have hw251_1 := hx251_1
      have hw251_0 := hx251_0
      cases e251
      replace hx251_0 := (HB.out.cell (World.block_lt_of_cell? w _ hx251_0)).trans hx251_0
      replace hx251_1 := (HB.out.cell (World.block_lt_of_cell? w _ hx251_1)).trans hx251_1
      replace hx251_2 := (HB.out.cell (World.block_lt_of_cell? w _ hx251_2)).trans hx251_2
      replace p251 := eq_true p251
      replace q251 := eq_true q251
      have p252 : 0 ≤ (x4_1 : Int) := of_decide_eq_true (by assumption)
      have q252 : x4_1 < (l0.length : Int) := of_decide_eq_true (by assumption)
      obtain ⟨ad252, e252, hx252_0, hx252_1, hx252_2⟩ := at_T50 HR0.out x4_1 p252 q252
      have hw252_2 := hx252_2
      have hw252_1 := hx252_1
      have hw252_0 := hx252_0
      obtain rfl : ad251 = ad252 := (by injection e252)
      replace hx252_0 := (HB.out.cell (World.block_lt_of_cell? w _ hx252_0)).trans hx252_0
      replace hx252_1 := (HB.out.cell (World.block_lt_of_cell? w _ hx252_1)).trans hx252_1
      replace hx252_2 := (HB.out.cell (World.block_lt_of_cell? w _ hx252_2)).trans hx252_2
      replace p252 := eq_true p252
      replace q252 := eq_true q252
      have p253 : 0 ≤ (x4_1 : Int) := of_decide_eq_true (by assumption)
      have q253 : x4_1 < (l0.length : Int) := of_decide_eq_true (by assumption)
      obtain ⟨ad253, e253, hx253_0, hx253_1, hx253_2⟩ := at_T50 HR0.out x4_1 p253 q253
      have hw253_2 := hx253_2
      have hw253_1 := hx253_1
      have hw253_0 := hx253_0
      obtain rfl : ad251 = ad253 := (by injection e253)
      replace hx253_0 := (HB.out.cell (World.block_lt_of_cell? w _ hx253_0)).trans hx253_0
      replace hx253_1 := (HB.out.cell (World.block_lt_of_cell? w _ hx253_1)).trans hx253_1
      replace hx253_2 := (HB.out.cell (World.block_lt_of_cell? w _ hx253_2)).trans hx253_2
      replace p253 := eq_true p253
      replace q253 := eq_true q253
      refine start_ (n := 20) (S := fun w' => w'.cell? (ad251.add ((x4_1).toNat * 3)) = some (.int .i64 ((rd_T50 l0 x4_1).f0)) ∧ w'.cell? ⟨(ad251.add ((x4_1).toNat * 3)).block, (ad251.add ((x4_1).toNat * 3)).off + 1, none⟩ = some (.int .u64 ((rd_T50 l0 x4_1).f1)) ∧ w'.cell? ⟨(ad251.add ((x4_1).toNat * 3)).block, (ad251.add ((x4_1).toNat * 3)).off + 2, none⟩ = some (.int .i64 ((rd_T50 l0 x4_1).f2)) ∧ w'.cell? (ad251.add ((x4_1).toNat * 3)) = some (.int .i64 ((rd_T50 l0 x4_1).f0)) ∧ w'.cell? ⟨(ad251.add ((x4_1).toNat * 3)).block, (ad251.add ((x4_1).toNat * 3)).off + 1, none⟩ = some (.int .u64 ((rd_T50 l0 x4_1).f1)) ∧ w'.cell? ⟨(ad251.add ((x4_1).toNat * 3)).block, (ad251.add ((x4_1).toNat * 3)).off + 2, none⟩ = some (.int .i64 ((rd_T50 l0 x4_1).f2)) ∧ w'.cell? (ad251.add ((x4_1).toNat * 3)) = some (.int .i64 ((rd_T50 l0 x4_1).f0)) ∧ w'.cell? ⟨(ad251.add ((x4_1).toNat * 3)).block, (ad251.add ((x4_1).toNat * 3)).off + 1, none⟩ = some (.int .u64 ((rd_T50 l0 x4_1).f1)) ∧ w'.cell? ⟨(ad251.add ((x4_1).toNat * 3)).block, (ad251.add ((x4_1).toNat * 3)).off + 2, none⟩ = some (.int .i64 ((rd_T50 l0 x4_1).f2))) (ds := []) (mk_ 0 20) (by kernel_rfl) rfl rfl ⟨((HB.out.cell (World.block_lt_of_cell? w _ hw251_0)).trans hw251_0), ((HB.out.cell (World.block_lt_of_cell? w _ hw251_1)).trans hw251_1), ((HB.out.cell (World.block_lt_of_cell? w _ hw251_2)).trans hw251_2), ((HB.out.cell (World.block_lt_of_cell? w _ hw252_0)).trans hw252_0), ((HB.out.cell (World.block_lt_of_cell? w _ hw252_1)).trans hw252_1), ((HB.out.cell (World.block_lt_of_cell? w _ hw252_2)).trans hw252_2), ((HB.out.cell (World.block_lt_of_cell? w _ hw253_0)).trans hw253_0), ((HB.out.cell (World.block_lt_of_cell? w _ hw253_1)).trans hw253_1), ((HB.out.cell (World.block_lt_of_cell? w _ hw253_2)).trans hw253_2)⟩ (fun hHeld => ?_); refine with_tabW marchlandlaw03_From.tab5 marchlandlaw03_From.bits5 (fun HT_ HW_ => ?_)
      generalize wr.drew = w5 at HO_3 HB hx251_0 hx251_1 hx251_2 hx252_0 hx252_1 hx252_2 hx253_0 hx253_1 hx253_2 hHeld ⊢
      refine pv_ 0 11 (mk_ 1 19) HT_ ?_
      refine pv_ 1 12 (mk_ 2 18) HT_ ?_
      refine pv_ 2 13 (mk_ 3 17) HT_ ?_
      refine pv_ 3 14 (mk_ 4 16) HT_ ?_
      refine pv_ 4 15 (mk_ 5 15) HT_ ?_
      refine pv_ 6 17 #[true, true, true, true, true, false, true, false, false, false, false, false, false, false, false, false, false, false, false, false] HT_ ?_
      refine pv_ 7 18 #[true, true, true, true, true, false, true, true, false, false, false, false, false, false, false, false, false, false, false, false] HT_ ?_
      refine pv_ 8 19 #[true, true, true, true, true, false, true, true, true, false, false, false, false, false, false, false, false, false, false, false] HT_ ?_
      refine pv_ 9 20 #[true, true, true, true, true, false, true, true, true, true, false, false, false, false, false, false, false, false, false, false] HT_ ?_
      refine pv_ 11 22 #[true, true, true, true, true, false, true, true, true, true, false, true, false, false, false, false, false, false, false, false] HT_ ?_
      refine pv_ 12 23 #[true, true, true, true, true, false, true, true, true, true, false, true, true, false, false, false, false, false, false, false] HT_ ?_
      refine pv_ 13 24 #[true, true, true, true, true, false, true, true, true, true, false, true, true, true, false, false, false, false, false, false] HT_ ?_
      refine pv_ 14 25 #[true, true, true, true, true, false, true, true, true, true, false, true, true, true, true, false, false, false, false, false] HT_ ?_
      refine tv_ 5 16 #[true, true, true, true, true, true, true, true, true, true, false, true, true, true, true, false, false, false, false, false] HT_ HW_ hHeld (hy := by rintro w' ⟨s0, s1, s2, s3, s4, s5, s6, s7, s8⟩; go_simp; with_reducible rfl) (h := ?_)
      refine tv_ 10 21 (mk_ 15 5) HT_ HW_ hHeld (hy := by rintro w' ⟨s0, s1, s2, s3, s4, s5, s6, s7, s8⟩; go_simp; with_reducible rfl) (h := ?_)
      refine tv_ 15 26 (mk_ 16 4) HT_ HW_ hHeld (hy := by rintro w' ⟨s0, s1, s2, s3, s4, s5, s6, s7, s8⟩; go_simp; with_reducible rfl) (h := ?_)
      refine pv_ 16 27 (mk_ 17 3) HT_ ?_
      refine one_ (i := 17) (N := some 28) (mk_ 18 2) rfl rfl (one_of HT_.out (by kernel_rfl)) (by decide) (fun K hK => ?_)
      refine value_ (w1 := ?_) (v := ?_) (by rfl) rfl ?_ ?_
      rotate_left 2
      ·go_simp
       constructor
       ·rfl
       ·rfl
      refine hK.out _ _ ⟨(World.cell?_alloc_lt _ _ _ (World.block_lt_of_cell? _ _ (((HB.out.cell (World.block_lt_of_cell? w _ hw251_0)).trans hw251_0)))).trans (((HB.out.cell (World.block_lt_of_cell? w _ hw251_0)).trans hw251_0)), (World.cell?_alloc_lt _ _ _ (World.block_lt_of_cell? _ _ (((HB.out.cell (World.block_lt_of_cell? w _ hw251_1)).trans hw251_1)))).trans (((HB.out.cell (World.block_lt_of_cell? w _ hw251_1)).trans hw251_1)), (World.cell?_alloc_lt _ _ _ (World.block_lt_of_cell? _ _ (((HB.out.cell (World.block_lt_of_cell? w _ hw251_2)).trans hw251_2)))).trans (((HB.out.cell (World.block_lt_of_cell? w _ hw251_2)).trans hw251_2)), (World.cell?_alloc_lt _ _ _ (World.block_lt_of_cell? _ _ (((HB.out.cell (World.block_lt_of_cell? w _ hw252_0)).trans hw252_0)))).trans (((HB.out.cell (World.block_lt_of_cell? w _ hw252_0)).trans hw252_0)), (World.cell?_alloc_lt _ _ _ (World.block_lt_of_cell? _ _ (((HB.out.cell (World.block_lt_of_cell? w _ hw252_1)).trans hw252_1)))).trans (((HB.out.cell (World.block_lt_of_cell? w _ hw252_1)).trans hw252_1)), (World.cell?_alloc_lt _ _ _ (World.block_lt_of_cell? _ _ (((HB.out.cell (World.block_lt_of_cell? w _ hw252_2)).trans hw252_2)))).trans (((HB.out.cell (World.block_lt_of_cell? w _ hw252_2)).trans hw252_2)), (World.cell?_alloc_lt _ _ _ (World.block_lt_of_cell? _ _ (((HB.out.cell (World.block_lt_of_cell? w _ hw253_0)).trans hw253_0)))).trans (((HB.out.cell (World.block_lt_of_cell? w _ hw253_0)).trans hw253_0)), (World.cell?_alloc_lt _ _ _ (World.block_lt_of_cell? _ _ (((HB.out.cell (World.block_lt_of_cell? w _ hw253_1)).trans hw253_1)))).trans (((HB.out.cell (World.block_lt_of_cell? w _ hw253_1)).trans hw253_1)), (World.cell?_alloc_lt _ _ _ (World.block_lt_of_cell? _ _ (((HB.out.cell (World.block_lt_of_cell? w _ hw253_2)).trans hw253_2)))).trans (((HB.out.cell (World.block_lt_of_cell? w _ hw253_2)).trans hw253_2))⟩ (fun hHeld => ?_)
      clear hK K
      refine norm_ (a' := ?_) ?_ ?_
      rotate_left
      ·show Act.put _ (some 28) _ = _
       simp only [Act.put, List.setIfInBounds_toArray, List.set_cons_zero, List.set_cons_succ, i64_w, i32_w]
       rfl
      refine one_ (i := 18) (N := some 29) (mk_ 19 1) rfl rfl (one_of HT_.out (by kernel_rfl)) (by decide) (fun K hK => ?_)
      refine Kd.R_append_step k40 (w0 := w) w.heap.size (by rfl) (.tmp 11) (.tmp 28) 22 40 (.agg #[(.int .i64 0), (.int .u64 0), (.int .i64 0)]) 24 rfl Try.underlying22 info40 rfl (by decide) (by omega) u3 x3_1 (⟨(rd_T50 l0 x4_1).f0, (rd_T50 l0 x4_1).f1, (rd_T50 l0 x4_1).f2⟩ : S40) [.int .i64 ((rd_T50 l0 x4_1).f0), .int .u64 ((rd_T50 l0 x4_1).f1), .int .i64 ((rd_T50 l0 x4_1).f2)] (fun _ => True) (fun _ => False) rfl rfl ?aP (fun _ hk => hk.elim) ?aF ?aO ?aB ?aS ?aL ?_
      (case aP => exact k40_mkM _ _ _ (⟨(rd_T50 l0 x4_1).f0, (rd_T50 l0 x4_1).f1, (rd_T50 l0 x4_1).f2⟩ : S40))
      (case aB => exact (bn HB))
      (case aF => exact (fun _ _ => trivial))
      (case aO => exact (rn HO_3))
      (case aS => exact (below_size (bn HB)))
      (case aL => have := LMc4.out; omega)
      intro v255 w6 ho hb hg hat
      rw [← Ny254.out] at ho
      have n0_ := Aside0.mk (hb)
      have n1_ := Aside0.mk (ho)
      clear HB
      clear HO_3
      have HB := n0_
      have HO256 := n1_
      clear n0_ n1_
      clear ho hb hg hat
      refine hK.out _ _ ⟨((HB.out.cell (World.block_lt_of_cell? w _ hw251_0)).trans hw251_0), ((HB.out.cell (World.block_lt_of_cell? w _ hw251_1)).trans hw251_1), ((HB.out.cell (World.block_lt_of_cell? w _ hw251_2)).trans hw251_2), ((HB.out.cell (World.block_lt_of_cell? w _ hw252_0)).trans hw252_0), ((HB.out.cell (World.block_lt_of_cell? w _ hw252_1)).trans hw252_1), ((HB.out.cell (World.block_lt_of_cell? w _ hw252_2)).trans hw252_2), ((HB.out.cell (World.block_lt_of_cell? w _ hw253_0)).trans hw253_0), ((HB.out.cell (World.block_lt_of_cell? w _ hw253_1)).trans hw253_1), ((HB.out.cell (World.block_lt_of_cell? w _ hw253_2)).trans hw253_2)⟩ (fun hHeld => ?_)
      clear hK K
      refine norm_ (a' := ?_) ?_ ?_
      rotate_left
      ·show Act.put _ (some 29) _ = _
       simp only [Act.put, List.setIfInBounds_toArray, List.set_cons_zero, List.set_cons_succ, i64_w, i32_w]
       rfl
      refine pv_ 19 3 (mk_ 20 0) HT_ ?_
      refine done_ (done_of HT_.out (by kernel_rfl)) ?_
      try go_wp2
      go_roundg k1
      case measure => have := HK1.out; omega
      case rel => exact ⟨(y254), (wrap64 (x4_1 + 1)), (by first | rfl | (simp; done) | (simp [*]; done)), H', ⟨by have := HK1.out; omega⟩, ⟨by (with_reducible repeat (first | apply Kd.R_alloc | apply Kd.R_drewN | apply Kd.R_drew)); exact HO256.out⟩, ⟨by repeat (first | (with_reducible first | exact HB.out | apply below_alloc | apply pw_below_drewN | apply below_drew1) | exact HB.out)⟩⟩
     ·rw [if_neg c4] at H
      exact absurd H (by simp)
    ·rw [if_neg c3] at H
     exact absurd H (by simp)
   ·rw [if_neg c2] at H
    have c2b0 : decide (x4_1 < (l0.length : Int)) = false := decide_eq_false c2
    clear c2
    obtain rfl := Option.some.inj H
    go_wp2
    go_ret
    exact ⟨_, by first | rfl | (simp [errW_none, errW_some] <;> rfl) | (simp [*, errW_none, errW_some] <;> rfl), by (with_reducible repeat (first | apply Kd.R_alloc | apply Kd.R_drewN | apply Kd.R_drew)); exact HO_3.out, by repeat (first | (with_reducible first | exact HB.out | apply below_alloc | apply pw_below_drewN | apply below_drew1) | exact HB.out)⟩
end Go.Proofs.Ytgeldmhgbnamcaa.P
end
section
-- Printed by the session's own turn of the print (wip/tools/print2.sh): some callees are proved by hand.
namespace Go.Proofs.Ytgeldmhgbnamcaa.P
open Go.RowKit Go.Proofs.YtgeldmhgbnamcaaW.PrintWords Go.Proofs.YtgeldmhgbnamcaaW.PrintLast Go.Proofs.YtgeldmhgbnamcaaW.PrintMore
attribute [local go_sem] max2_int min2_int max_two min_two max_three min_three max_four min_four   -- for this text's walks alone
set_option linter.unusedVariables false
set_option linter.unusedSimpArgs false
/-! ### marchlandref03_Merge: function 35 -/
def marchlandref03_Merge.f (k : Nat) (l0 : List (S40)) (l1 : List (S40)) : Option ((List (S40)) × Int) := (some (([] : List (S40)) : List (S40))).bind fun y368 => (if y368.length + l0.length < 5864062014805 then ((some (y368 ++ l0 : List (S40))).bind fun y371 => (if y371.length + l1.length < 5864062014805 then ((marchlandref03_sums.f k (y371 ++ l1)).bind fun bt377 => (if bt377.2 = true then (some (bt377.1, 0)) else (some (([] : List (S40)), 10)))) else (none))) else (none))
set_option maxHeartbeats 8000000 in
set_option maxRecDepth 100000 in
theorem marchlandref03_Merge.calls (k : Nat) (A0 : Option Addr) (c0 : Nat) (l0 : List (S40)) (A1 : Option Addr) (c1 : Nat) (l1 : List (S40)) (r1 : List (S40)) (r2 : Int) (w : World) (hr0 : Kd.C k40 w A0 l0.length l0) (hc0 : l0.length ≤ c0) (hr1 : Kd.C k40 w A1 l1.length l1) (hc1 : l1.length ≤ c1) (h : marchlandref03_Merge.f k l0 l1 = some (r1, r2)) :
  Calls Try.prog 35 #[.slice A0 l0.length c0, .slice A1 l1.length c1] w fun e w' => ∃ v0_ : Value, e = .returned (.tuple #[v0_, .int .i64 r2]) ∧ Kd.R k40 40 w' w.heap.size (fun _ => True) v0_ r1 ∧ Below w.heap.size w w' := by
 have HR0 := Aside0.mk hr0
 have HC0 := Aside0.mk hc0
 clear hr0 hc0
 have HR1 := Aside0.mk hr1
 have HC1 := Aside0.mk hc1
 clear hr1 hc1
 have HB := Aside0.mk (Below.refl w.heap.size w)
 have H : ((some (([] : List (S40)) : List (S40))).bind fun y368 => (if y368.length + l0.length < 5864062014805 then ((some (y368 ++ l0 : List (S40))).bind fun y371 => (if y371.length + l1.length < 5864062014805 then ((marchlandref03_sums.f k (y371 ++ l1)).bind fun bt377 => (if bt377.2 = true then (some (bt377.1, 0)) else (some (([] : List (S40)), 10)))) else (none))) else (none))) = some (r1, r2) := h
 clear h
 obtain ⟨y368, hy368⟩ : ∃ y_ : List (S40), y_ = (([] : List (S40))) := ⟨_, rfl⟩
 replace H : (if y368.length + l0.length < 5864062014805 then ((some (y368 ++ l0 : List (S40))).bind fun y371 => (if y371.length + l1.length < 5864062014805 then ((marchlandref03_sums.f k (y371 ++ l1)).bind fun bt377 => (if bt377.2 = true then (some (bt377.1, 0)) else (some (([] : List (S40)), 10)))) else (none))) else (none)) = some (r1, r2) := by first | (rw [hy368]; with_reducible exact H) | (have H2_ := (Option.bind_some _ _).symm.trans H; rw [hy368]; with_reducible exact H2_) | (have H2_ := (Option.bind_some _ _).symm.trans H; with_reducible exact H2_) | with_reducible exact H | (rw [hy368]; exact H) | exact H
 have Ny368 := Aside0.mk hy368
 clear hy368
 by_cases c3 : y368.length + l0.length < 5864062014805
 ·rw [if_pos c3] at H
  have LMc3 := Aside0.mk c3
  clear c3
  obtain ⟨y371, hy371⟩ : ∃ y_ : List (S40), y_ = (y368 ++ l0) := ⟨_, rfl⟩
  replace H : (if y371.length + l1.length < 5864062014805 then ((marchlandref03_sums.f k (y371 ++ l1)).bind fun bt377 => (if bt377.2 = true then (some (bt377.1, 0)) else (some (([] : List (S40)), 10)))) else (none)) = some (r1, r2) := by first | (rw [hy371]; with_reducible exact H) | (have H2_ := (Option.bind_some _ _).symm.trans H; rw [hy371]; with_reducible exact H2_) | (have H2_ := (Option.bind_some _ _).symm.trans H; with_reducible exact H2_) | with_reducible exact H | (rw [hy371]; exact H) | exact H
  have Ny371 := Aside0.mk hy371
  clear hy371
  by_cases c4 : y371.length + l1.length < 5864062014805
  ·rw [if_pos c4] at H
   have LMc4 := Aside0.mk c4
   clear c4
   obtain ⟨y374, hy374⟩ : ∃ y_ : List (S40), y_ = (y371 ++ l1) := ⟨_, rfl⟩
   replace H : ((marchlandref03_sums.f k y374).bind fun bt377 => (if bt377.2 = true then (some (bt377.1, 0)) else (some (([] : List (S40)), 10)))) = some (r1, r2) := by first | (rw [hy374]; with_reducible exact H) | (have H2_ := (Option.bind_some _ _).symm.trans H; rw [hy374]; with_reducible exact H2_) | (have H2_ := (Option.bind_some _ _).symm.trans H; with_reducible exact H2_) | with_reducible exact H | (rw [hy374]; exact H) | exact H
   have Ny374 := Aside0.mk hy374
   clear hy374
   replace H := Option.bind_eq_some_iff.mp H
   obtain ⟨⟨t377, t378⟩, A50, H⟩ := H
   replace H : (if t378 = true then (some (t377, 0)) else (some (([] : List (S40)), 10))) = some (r1, r2) := H
   have A5 := Aside0.mk A50
   clear A50
   by_cases c6 : t378 = true
   ·subst c6
    have H1 : (some (t377, 0)) = some (r1, r2) := by rw [if_pos rfl] at H; exact H
    clear H
    have H := H1
    clear H1
    simp only [Option.some.injEq, Prod.mk.injEq] at H
    obtain ⟨rfl, rfl⟩ := H
    go_enter Try.func35, Try.ntmps35
    go_wp2_with (first | ((with_reducible refine gate_dst (N := 9) rfl ?_); refine Kd.R_lit k40 _ 40 ?hg (N := 9) ?hd (xs := ([] : List (S40))) (inner := []) (ok := fun _ => True) (okp := fun _ => True) ?hr ?hp (fun _ hk => hk) trivial (Below.refl _ _) (Nat.le_refl _) (by simp) ?_; (case hd => rfl); (case hg => rfl); (case hr => first | (go_simp; done) | (go_simp; rfl)); (case hp => exact (Reps.none _ _)); intro v369 w7 ho8 hb hg_ hnew_; clear hg_ hnew_; (first | rw [← Ny368.out] at ho8 | (simp only [Int.reduceToNat] at ho8; rw [← Ny368.out] at ho8)); have n0_ := Aside0.mk (Kd.R_lower ho8 (below_size (bn HB))); have HO370 := n0_; replace HB := bb HB hb; clear n0_; clear hb ho8) | ((with_reducible refine gate_builtin (b := .append) (xs := #[.tmp 9, .tmp 10]) rfl ?_); at_builtin; refine Kd.R_append_rows k40 (w0 := w) w.heap.size rfl (.tmp 9) (.tmp 10) 22 40 (.agg #[(.int .i64 0), (.int .u64 0), (.int .i64 0)]) 24 rfl Try.underlying22 info40 rfl (by decide) (by omega) v369 y368 l0 _ _ _ (fun _ => True) (fun _ => False) rfl rfl ?aO ?aR (fun _ _ h => h) (fun _ h => h.elim) ?aF ?aB ?aS ?aL ?_; (case aR => repeat (first | exact (Kd.C_below HR0.out HB.out) | (with_reducible refine Kd.C_alloc ?_ _) | (with_reducible refine Kd.C_drewN ?_ _) | (with_reducible refine Kd.C_drew ?_))); (case aB => exact (bn HB)); (case aF => exact (fun _ _ => trivial)); (case aO => exact (rn HO370)); (case aS => exact (below_size (bn HB))); (case aL => have := LMc3.out; omega); intro v372 w9 ho hb hg hat; rw [← Ny371.out] at ho; have n0_ := Aside0.mk (hb); have n1_ := Aside0.mk (ho); clear HB; clear HO370; have HB := n0_; have HO373 := n1_; clear n0_ n1_; clear ho hb hg hat) | ((with_reducible refine gate_builtin (b := .append) (xs := #[.tmp 11, .tmp 12]) rfl ?_); at_builtin; refine Kd.R_append_rows k40 (w0 := w) w.heap.size rfl (.tmp 11) (.tmp 12) 22 40 (.agg #[(.int .i64 0), (.int .u64 0), (.int .i64 0)]) 24 rfl Try.underlying22 info40 rfl (by decide) (by omega) v372 y371 l1 _ _ _ (fun _ => True) (fun _ => False) rfl rfl ?aO ?aR (fun _ _ h => h) (fun _ h => h.elim) ?aF ?aB ?aS ?aL ?_; (case aR => repeat (first | exact (Kd.C_below HR1.out HB.out) | (with_reducible refine Kd.C_alloc ?_ _) | (with_reducible refine Kd.C_drewN ?_ _) | (with_reducible refine Kd.C_drew ?_))); (case aB => exact (bn HB)); (case aF => exact (fun _ _ => trivial)); (case aO => exact (rn HO373)); (case aS => exact (below_size (bn HB))); (case aL => have := LMc4.out; omega); intro v375 w10 ho hb hg hat; rw [← Ny374.out] at ho; have n0_ := Aside0.mk (hb); have n1_ := Aside0.mk (ho); clear HB; clear HO373; have HB := n0_; have HO376 := n1_; clear n0_ n1_; clear ho hb hg hat; obtain ⟨Ao11, co11, eo11⟩ := Kd.R_slice HO376.out; subst eo11) | ((with_reducible refine gate_callee (f := 52) rfl ?_); refine gl (some 14) Try.func52 #[.slice Ao11 y374.length co11] ?_; (with_reducible refine (marchlandref03_sums.calls k _ _ y374 t377 true _ ?side1 ?side2 A5.out).mono ?_); (case side1 => exact rc HO376); (case side2 => exact rs HO376); rintro e w12 ⟨v379, rfl, ho0, hb⟩; refine ⟨_, rfl, ?_⟩; have n1_ := Aside0.mk (Kd.R_lower (Kd.R_new' ho0 (Kd.R_lt (rn HO376))) (below_size (bn HB))); replace HO376 := rl HO376 (Kd.R_base ho0) hb; have HO380 := n1_; replace HB := bb HB hb; clear n1_; (try clear hb); (try clear ho0)))
    go_ret2
    exact ⟨_, by first | rfl | (simp [errW_none, errW_some] <;> rfl) | (simp [*, errW_none, errW_some] <;> rfl), by (with_reducible repeat (first | apply Kd.R_alloc | apply Kd.R_drewN | apply Kd.R_drew)); exact Kd.R_mono HO380.out (fun _ hk => trivial), by repeat (first | (with_reducible first | exact HB.out | apply below_alloc | apply pw_below_drewN | apply below_drew1) | exact HB.out)⟩
   ·replace c6 := Bool.eq_false_iff.mpr c6
    subst c6
    have H1 : (some (([] : List (S40)), 10)) = some (r1, r2) := by rw [if_neg (show ¬ (false = true) by decide)] at H; exact H
    clear H
    have H := H1
    clear H1
    simp only [Option.some.injEq, Prod.mk.injEq] at H
    obtain ⟨rfl, rfl⟩ := H
    go_enter Try.func35, Try.ntmps35
    go_wp2_with (first | ((with_reducible refine gate_dst (N := 9) rfl ?_); refine Kd.R_lit k40 _ 40 ?hg (N := 9) ?hd (xs := ([] : List (S40))) (inner := []) (ok := fun _ => True) (okp := fun _ => True) ?hr ?hp (fun _ hk => hk) trivial (Below.refl _ _) (Nat.le_refl _) (by simp) ?_; (case hd => rfl); (case hg => rfl); (case hr => first | (go_simp; done) | (go_simp; rfl)); (case hp => exact (Reps.none _ _)); intro v369 w13 ho14 hb hg_ hnew_; clear hg_ hnew_; (first | rw [← Ny368.out] at ho14 | (simp only [Int.reduceToNat] at ho14; rw [← Ny368.out] at ho14)); have n0_ := Aside0.mk (Kd.R_lower ho14 (below_size (bn HB))); have HO370 := n0_; replace HB := bb HB hb; clear n0_; clear hb ho14) | ((with_reducible refine gate_builtin (b := .append) (xs := #[.tmp 9, .tmp 10]) rfl ?_); at_builtin; refine Kd.R_append_rows k40 (w0 := w) w.heap.size rfl (.tmp 9) (.tmp 10) 22 40 (.agg #[(.int .i64 0), (.int .u64 0), (.int .i64 0)]) 24 rfl Try.underlying22 info40 rfl (by decide) (by omega) v369 y368 l0 _ _ _ (fun _ => True) (fun _ => False) rfl rfl ?aO ?aR (fun _ _ h => h) (fun _ h => h.elim) ?aF ?aB ?aS ?aL ?_; (case aR => repeat (first | exact (Kd.C_below HR0.out HB.out) | (with_reducible refine Kd.C_alloc ?_ _) | (with_reducible refine Kd.C_drewN ?_ _) | (with_reducible refine Kd.C_drew ?_))); (case aB => exact (bn HB)); (case aF => exact (fun _ _ => trivial)); (case aO => exact (rn HO370)); (case aS => exact (below_size (bn HB))); (case aL => have := LMc3.out; omega); intro v372 w15 ho hb hg hat; rw [← Ny371.out] at ho; have n0_ := Aside0.mk (hb); have n1_ := Aside0.mk (ho); clear HB; clear HO370; have HB := n0_; have HO373 := n1_; clear n0_ n1_; clear ho hb hg hat) | ((with_reducible refine gate_builtin (b := .append) (xs := #[.tmp 11, .tmp 12]) rfl ?_); at_builtin; refine Kd.R_append_rows k40 (w0 := w) w.heap.size rfl (.tmp 11) (.tmp 12) 22 40 (.agg #[(.int .i64 0), (.int .u64 0), (.int .i64 0)]) 24 rfl Try.underlying22 info40 rfl (by decide) (by omega) v372 y371 l1 _ _ _ (fun _ => True) (fun _ => False) rfl rfl ?aO ?aR (fun _ _ h => h) (fun _ h => h.elim) ?aF ?aB ?aS ?aL ?_; (case aR => repeat (first | exact (Kd.C_below HR1.out HB.out) | (with_reducible refine Kd.C_alloc ?_ _) | (with_reducible refine Kd.C_drewN ?_ _) | (with_reducible refine Kd.C_drew ?_))); (case aB => exact (bn HB)); (case aF => exact (fun _ _ => trivial)); (case aO => exact (rn HO373)); (case aS => exact (below_size (bn HB))); (case aL => have := LMc4.out; omega); intro v375 w16 ho hb hg hat; rw [← Ny374.out] at ho; have n0_ := Aside0.mk (hb); have n1_ := Aside0.mk (ho); clear HB; clear HO373; have HB := n0_; have HO376 := n1_; clear n0_ n1_; clear ho hb hg hat; obtain ⟨Ao17, co17, eo17⟩ := Kd.R_slice HO376.out; subst eo17) | ((with_reducible refine gate_callee (f := 52) rfl ?_); refine gl (some 14) Try.func52 #[.slice Ao17 y374.length co17] ?_; (with_reducible refine (marchlandref03_sums.calls k _ _ y374 t377 false _ ?side1 ?side2 A5.out).mono ?_); (case side1 => exact rc HO376); (case side2 => exact rs HO376); rintro e w18 ⟨v379, rfl, ho0, hb⟩; refine ⟨_, rfl, ?_⟩; have n1_ := Aside0.mk (Kd.R_lower (Kd.R_new' ho0 (Kd.R_lt (rn HO376))) (below_size (bn HB))); replace HO376 := rl HO376 (Kd.R_base ho0) hb; have HO380 := n1_; replace HB := bb HB hb; clear n1_; (try clear hb); (try clear ho0)))
    go_ret2
    exact ⟨_, by first | rfl | (simp [errW_none, errW_some] <;> rfl) | (simp [*, errW_none, errW_some] <;> rfl), by first | exact Kd.R_nil _ _ _ _ _ | exact Kd.N_nil _ _ _ _ _ | exact Kd.V_nil _ _ _ _ _ | exact Kd.Q_nil _ _ _ _ _ | exact Kd.S_nil _ _ _ _ _, by repeat (first | (with_reducible first | exact HB.out | apply below_alloc | apply pw_below_drewN | apply below_drew1) | exact HB.out)⟩
  ·rw [if_neg c4] at H
   exact absurd H (by simp)
 ·rw [if_neg c3] at H
  exact absurd H (by simp)
end Go.Proofs.Ytgeldmhgbnamcaa.P
end
section
/- Plain laws of batches, first part: numbers, reading, order, sums by insertion. No program's step in sight, only the printed functions. -/
namespace Go.Proofs.Ytgeldmhgbnamcaa.Pure
open Go.RowKit Go.Proofs.Ytgeldmhgbnamcaa.P Go.Proofs.YtgeldmhgbnamcaaW.PrintWords Go.Proofs.YtgeldmhgbnamcaaW.PrintLast
set_option linter.unusedVariables false
set_option linter.unusedSimpArgs false
/-! ### the order -/
theorem wrong_ev (x : S50) : Ev (fun k => batch_wrong.f k x.f0 x.f1 x.f2) (wrongv x) := by
 refine ⟨1, fun k hk => ?_⟩
 obtain ⟨k, rfl⟩ : ∃ m, k = m + 1 := ⟨k - 1, by omega⟩
 have e : batch_wrong.f (k + 1) x.f0 x.f1 x.f2 = batch_wrong.j0 (k + 1) (decide (x.f0 < 0 ∨ x.f0 ≥ 64)) x.f0 x.f1 x.f2 := by
  unfold batch_wrong.f
  by_cases h : x.f0 < 0
  ·rw [if_pos h]; simp [h]
  ·rw [if_neg h]; simp [h]
 show batch_wrong.f (k + 1) x.f0 x.f1 x.f2 = _
 rw [e]
 simp only [batch_wrong.j0, within_eq, Option.bind_some, wrongv, decide_eq_true_eq]
 split <;> (try rfl)
 split <;> (try rfl)
 split <;> rfl
/-! ### sums by insertion -/
end Go.Proofs.Ytgeldmhgbnamcaa.Pure
end
section
/- Plain laws of batches, second part: the insertion sort, and the sort of a short list. -/
namespace Go.Proofs.Ytgeldmhgbnamcaa.Pure
open Go.RowKit Go.Proofs.Ytgeldmhgbnamcaa.P Go.Proofs.YtgeldmhgbnamcaaW.PrintWords Go.Proofs.YtgeldmhgbnamcaaW.PrintLast
set_option linter.unusedVariables false
set_option linter.unusedSimpArgs false
theorem ordv_nonneg {a b : S50} : ordv a b ≥ 0 ↔ ¬ kl a b := by have := @ordv_neg a b; constructor <;> intro h <;> (try intro k) <;> (try have := this.2 k) <;> (try omega); exact Int.not_lt.1 (fun k => h (this.1 k))
end Go.Proofs.Ytgeldmhgbnamcaa.Pure
end
section
/- Plain laws of batches, third part: what Pack and Right compute. -/
namespace Go.Proofs.Ytgeldmhgbnamcaa.Pure
open Go.RowKit Go.Proofs.Ytgeldmhgbnamcaa.P Go.Proofs.YtgeldmhgbnamcaaW.PrintWords Go.Proofs.YtgeldmhgbnamcaaW.PrintLast
set_option linter.unusedVariables false
set_option linter.unusedSimpArgs false
/-! ### Right -/
def rightL (p : Option S50) : List S50 → Bool
 | [] => true
 | x :: r => decide (wrongv x = 0) && decide (x.f2 ≠ 0) && (match p with | none => true | some p => decide (kl p x)) && rightL (some x) r
def rightv (l : List S50) : Bool := rightL none l
theorem right_l0 (l : List S50) (hl : l.length ≤ 8000000000000000000) : ∀ (r pre : List S50), l = pre ++ r →
  Ev (fun k => batch_Right.l0 k l l (l.length : Int) (pre.length : Int)) (rightL pre.getLast? r) := by
 intro r
 induction r with
 | nil =>
  intro pre e
  refine ⟨1, fun k hk => ?_⟩
  obtain ⟨k, rfl⟩ : ∃ m, k = m + 1 := ⟨k - 1, by omega⟩
  show batch_Right.l0 (k + 1) _ _ _ _ = _
  rw [batch_Right.l0, if_neg (by subst e; simp)]
  rfl
 | cons x r ih =>
  intro pre e
  obtain ⟨K, h⟩ := wrong_ev x
  obtain ⟨K1, h1⟩ := ih (pre ++ [x]) (by simp [e])
  have e1 : rd_T50 l (pre.length : Int) = x := by rw [e]; exact rd5 _ _ _ rfl
  have ll : l.length = pre.length + (r.length + 1) := by rw [e]; simp
  have ew : wrap64 ((pre.length : Int) + 1) = ((pre ++ [x]).length : Int) := by rw [w64s (by omega)]; simp
  rcases List.eq_nil_or_concat pre with rfl | ⟨pre', y, rfl⟩
  ·refine ⟨K + K1 + 1, fun k hk => ?_⟩
   obtain ⟨k, rfl⟩ : ∃ m, k = m + 1 := ⟨k - 1, by omega⟩
   have h := h k (by omega); dsimp only at h
   have h1 := h1 k (by omega); dsimp only at h1
   show batch_Right.l0 (k + 1) _ _ _ _ = _
   rw [batch_Right.l0, if_pos (by omega), if_pos (by omega), if_pos (by omega), e1, h, Option.bind_some]
   simp only [rightL, List.getLast?_nil]
   by_cases hw : wrongv x = 0
   ·rw [if_pos hw]
    by_cases hz : x.f2 = 0
    ·rw [if_pos hz]; simp [hz]
    ·rw [if_neg hz, if_neg (by simp), ew, h1]; simp [hw, hz]
   ·rw [if_neg hw]; simp [hw]
  ·simp only [List.concat_eq_append] at *
   obtain ⟨K2, h2⟩ := order_at y x
   refine ⟨K + K1 + K2 + 1, fun k hk => ?_⟩
   obtain ⟨k, rfl⟩ : ∃ m, k = m + 1 := ⟨k - 1, by omega⟩
   have h := h k (by omega)
   have h1 := h1 k (by omega)
   have h2 := h2 k (by omega); dsimp only at h2
   have lp : (pre' ++ [y]).length = pre'.length + 1 := by simp
   have ep : wrap64 (((pre' ++ [y]).length : Int) - 1) = (pre'.length : Int) := by rw [lp]; exact w64p (by omega)
   have e2 : rd_T50 l (pre'.length : Int) = y := by rw [e, List.append_assoc]; exact rd5 _ _ _ rfl
   show batch_Right.l0 (k + 1) _ _ _ _ = _
   rw [batch_Right.l0, if_pos (by omega), if_pos (by omega), if_pos (by omega), e1, h, Option.bind_some]
   simp only [rightL, List.getLast?_append, List.getLast?_singleton, Option.some_or]
   by_cases hw : wrongv x = 0
   ·rw [if_pos hw]
    by_cases hz : x.f2 = 0
    ·rw [if_pos hz]; simp [hz]
    ·rw [if_neg hz, if_pos (by omega), ep, if_pos (by omega), if_pos (by omega), e2, h2, Option.bind_some, ew, h1]
     by_cases hk : kl y x
     ·rw [if_neg (fun h => ordv_nonneg.1 h hk)]; simp [hw, hz, hk]
     ·rw [if_pos (ordv_nonneg.2 hk)]; simp [hk]
   ·rw [if_neg hw]; simp [hw]
theorem right_ev (l : List S50) (hl : l.length ≤ 8000000000000000000) : Ev (fun k => batch_Right.f k l) (rightv l) :=
 Ev.congr (fun k => by show batch_Right.f k l = _; rw [batch_Right.f]; rfl) (right_l0 l hl l [] rfl)
end Go.Proofs.Ytgeldmhgbnamcaa.Pure
end
section
/- Plain laws of batches, fourth part: the reference's sums, Pack, Right, Same; To and From. Lists of the law are written as 'X.map v'. -/
namespace Go.Proofs.Ytgeldmhgbnamcaa.Pure
open Go.RowKit Go.Proofs.Ytgeldmhgbnamcaa.P Go.Proofs.YtgeldmhgbnamcaaW.PrintWords Go.Proofs.YtgeldmhgbnamcaaW.PrintLast
set_option linter.unusedVariables false
set_option linter.unusedSimpArgs false
theorem from_l0 (X : List S50) (hl : Short X.length) : ∀ (r pre : List S50), X = pre ++ r → Ev (fun k => marchlandlaw03_From.l0 k X (pre.map v) (pre.length : Int)) (X.map v) := by
 unfold Short at hl
 intro r
 induction r with
 | nil =>
  intro pre e
  refine ⟨1, fun k hk => ?_⟩
  obtain ⟨k, rfl⟩ : ∃ m, k = m + 1 := ⟨k - 1, by omega⟩
  show marchlandlaw03_From.l0 (k + 1) _ _ _ = _
  rw [marchlandlaw03_From.l0, if_neg (by subst e; simp)]
  simp [e]
 | cons x r ih =>
  intro pre e
  obtain ⟨K1, h1⟩ := ih (pre ++ [x]) (by simp [e])
  refine ⟨K1 + 1, fun k hk => ?_⟩
  obtain ⟨k, rfl⟩ : ∃ m, k = m + 1 := ⟨k - 1, by omega⟩
  have h1 := h1 k (by omega); dsimp only at h1
  have ll : X.length = pre.length + (r.length + 1) := by rw [e]; simp
  have lm : (pre.map v).length = pre.length := by simp
  have e1 : rd_T50 X (pre.length : Int) = x := by rw [e]; exact rd5 _ _ _ rfl
  have ew : wrap64 ((pre.length : Int) + 1) = ((pre ++ [x]).length : Int) := by rw [w64s (by omega)]; simp
  have em : pre.map v ++ [⟨x.f0, x.f1, x.f2⟩] = (pre ++ [x]).map v := by simp [v]
  show marchlandlaw03_From.l0 (k + 1) _ _ _ = _
  rw [marchlandlaw03_From.l0, if_pos (by omega), if_pos (by omega), if_pos (by omega), e1, ew, em]
  exact h1
theorem from_ev (X : List S50) (hl : Short X.length) : Ev (fun k => marchlandlaw03_From.f k X) (X.map v) := from_l0 X hl X [] rfl
theorem same3_l0 (A B : List S50) (hl : Short A.length) (he : A.length = B.length) : ∀ (a b pre : List S50), A = pre ++ a → B = pre ++ b → a.length = b.length →
  Ev (fun k => marchlandref03_Same.l0 k (A.map v) (B.map v) (pre.length : Int)) (decide (A = B)) := by
 unfold Short at hl
 intro a
 induction a with
 | nil =>
  intro b pre e1 e2 e3
  obtain rfl : b = [] := List.eq_nil_of_length_eq_zero e3.symm
  refine ⟨1, fun k hk => ?_⟩
  obtain ⟨k, rfl⟩ : ∃ m, k = m + 1 := ⟨k - 1, by omega⟩
  show marchlandref03_Same.l0 (k + 1) _ _ _ = _
  rw [marchlandref03_Same.l0, if_neg (by subst e1; simp)]
  simp [e1, e2]
 | cons x a ih =>
  intro b pre e1 e2 e3
  cases b with
  | nil => simp at e3
  | cons y b =>
   have ll : A.length = pre.length + (a.length + 1) := by rw [e1]; simp
   have lA : (A.map v).length = A.length := by simp
   have lB : (B.map v).length = B.length := by simp
   have r1 : rd_T40 (A.map v) (pre.length : Int) = v x := by rw [e1, List.map_append]; exact rd4 _ _ _ (by simp)
   have r2 : rd_T40 (B.map v) (pre.length : Int) = v y := by rw [e2, List.map_append]; exact rd4 _ _ _ (by simp)
   by_cases hxy : x = y
   ·subst hxy
    obtain ⟨K1, h1⟩ := ih b (pre ++ [x]) (by simp [e1]) (by simp [e2]) (by simpa using e3)
    refine ⟨K1 + 1, fun k hk => ?_⟩
    obtain ⟨k, rfl⟩ : ∃ m, k = m + 1 := ⟨k - 1, by omega⟩
    have h1 := h1 k (by omega); dsimp only at h1
    have ew : wrap64 ((pre.length : Int) + 1) = ((pre ++ [x]).length : Int) := by rw [w64s (by omega)]; simp
    show marchlandref03_Same.l0 (k + 1) _ _ _ = _
    rw [marchlandref03_Same.l0, if_pos (by omega), if_pos (by omega), if_pos (by omega), r1, r2, if_neg (by simp), ew]
    exact h1
   ·refine ⟨1, fun k hk => ?_⟩
    obtain ⟨k, rfl⟩ : ∃ m, k = m + 1 := ⟨k - 1, by omega⟩
    have hne : A ≠ B := by rw [e1, e2]; simp [hxy]
    show marchlandref03_Same.l0 (k + 1) _ _ _ = _
    rw [marchlandref03_Same.l0, if_pos (by omega), if_pos (by omega), if_pos (by omega), r1, r2, if_pos]
    ·simp [hne]
    ·obtain ⟨a0, a1, a2⟩ := x
     obtain ⟨b0, b1, b2⟩ := y
     simp only [v, S50.mk.injEq, not_and] at hxy ⊢
     by_cases q0 : a0 = b0 <;> by_cases q1 : a1 = b1 <;> simp_all
theorem same3_ev (A B : List S50) (hl : Short A.length) : Ev (fun k => marchlandref03_Same.f k (A.map v) (B.map v)) (decide (A = B)) := by
 by_cases he : A.length = B.length
 ·refine Ev.congr (fun k => ?_) (same3_l0 A B hl he A B [] rfl rfl he)
  show marchlandref03_Same.f k _ _ = _
  rw [marchlandref03_Same.f, if_pos (by simp [he])]; rfl
 ·refine ⟨0, fun k hk => ?_⟩
  show marchlandref03_Same.f k _ _ = _
  rw [marchlandref03_Same.f, if_neg (by simp; omega)]
  have : A ≠ B := fun h => he (by rw [h])
  simp [this]
/-! ### the reference's sums -/
/-! ### the reference's Pack and Right -/
end Go.Proofs.Ytgeldmhgbnamcaa.Pure
end
section
/- Plain laws of batches, sixth part: what is packed is right; the told cases. -/
namespace Go.Proofs.Ytgeldmhgbnamcaa.Pure
open Go.RowKit Go.Proofs.Ytgeldmhgbnamcaa.P Go.Proofs.YtgeldmhgbnamcaaW.PrintWords Go.Proofs.YtgeldmhgbnamcaaW.PrintLast
set_option linter.unusedVariables false
set_option linter.unusedSimpArgs false
theorem rightL_of : ∀ (l : List S50) (p : Option S50), Str l → (∀ x ∈ l, wrongv x = 0 ∧ x.f2 ≠ 0) → (∀ q, p = some q → ∀ x ∈ l, kl q x) → rightL p l = true := by
 intro l
 induction l with
 | nil => intro p _ _ _; rfl
 | cons x l ih =>
  intro p hs hw hp
  obtain ⟨h1, h2⟩ := List.pairwise_cons.1 hs
  have a := hw x (by simp)
  have b := ih (some x) h2 (fun y hy => hw y (by simp [hy])) (fun q e y hy => by cases e; exact h1 y hy)
  cases p with
  | none => simp [rightL, a.1, a.2, b]
  | some q => have c := hp q rfl x (by simp); simp [rightL, a.1, a.2, b, c]
theorem rt_right {X : List S50} (h : Rt X) : rightv X = true := rightL_of X none h.1 h.2 (fun q e => by cases e)
end Go.Proofs.Ytgeldmhgbnamcaa.Pure
end
section
/- Plain laws of batches: how many there are of each key; what is small is told by that alone. -/
namespace Go.Proofs.Ytgeldmhgbnamcaa.Pure
open Go.RowKit Go.Proofs.Ytgeldmhgbnamcaa.P Go.Proofs.YtgeldmhgbnamcaaW.PrintWords Go.Proofs.YtgeldmhgbnamcaaW.PrintLast
set_option linter.unusedVariables false
set_option linter.unusedSimpArgs false
/-! ### what is computed -/
theorem rmerge_ev (A B : List S50) (hl : A.length + B.length ≤ 1000000) (hm : mass (A ++ B) ≤ 1000000000) : Ev (fun k => marchlandref03_Merge.f k (A.map v) (B.map v)) ((K (A ++ B)).map v, 0) := by
 obtain ⟨K1, h1⟩ := sums_ev (A ++ B) (by unfold Short; simp; omega)
 refine ⟨K1, fun k hk => ?_⟩
 have h1 := h1 k hk; dsimp only at h1
 rw [if_pos (small_good hm), List.map_append] at h1
 show marchlandref03_Merge.f k _ _ = _
 rw [marchlandref03_Merge.f, Option.bind_some, if_pos (by simp; omega), Option.bind_some, if_pos (by simp; omega), List.nil_append, h1, Option.bind_some, if_pos rfl]
 rfl
end Go.Proofs.Ytgeldmhgbnamcaa.Pure
end
section
/- Plain laws of batches: what the laws' Fixes make is small; merges of what is small. -/
namespace Go.Proofs.Ytgeldmhgbnamcaa.Pure
open Go.RowKit Go.Proofs.Ytgeldmhgbnamcaa.P Go.Proofs.YtgeldmhgbnamcaaW.PrintWords Go.Proofs.YtgeldmhgbnamcaaW.PrintLast
set_option linter.unusedVariables false
set_option linter.unusedSimpArgs false
theorem rsame_true (X : List S50) (hl : X.length ≤ 1000000) : Ev (fun k => marchlandref03_Same.f k (X.map v) (X.map v)) true := by have := same3_ev X X (by unfold Short; omega); rwa [decide_eq_true rfl] at this
end Go.Proofs.Ytgeldmhgbnamcaa.Pure
end
