/- Walks and laws of several statements of this seat, joined into one text; no condition. -/
import Derived.Test.YtgeldmhgbnamcaaProg
import Derived.Below
import Derived.Deep.Draws
import Derived.Deep.AppendLies
import Derived.Maps.AppendAt
import Derived.OwnWalk
import Derived.Laws.BytesArg
import Derived.Laws.MakeOwn
import Derived.Laws.OwnMore
import Derived.Deep.OwnRows
import Derived.Tactics
import Derived.Lib.ConvBytes
import Derived.Laws.Slices
import Derived.WalkKit
import Derived.KernelRfl
import Derived.RowKit3
import Derived.Deep.LoopGhost
import Derived.Deep.QuietTactic
import Derived.BigQuiet
import Derived.WideLaws
import Derived.Deep.DeepCutAuto
import Derived.Deep.CutBlock
import Derived.Deep.RegionHeld3
import Derived.Laws.Rows
import Derived.Lib.AppendStr
import Derived.ArgAppend
import Derived.Laws.IdiomCopy
import Derived.OrdersHeld
import Derived.Laws.BitsLemmas
import Derived.RowKit
import Derived.Laws.StructEq
import Derived.Lib.BufferMore
import Derived.Deep.Slices
import Derived.SizedLaws
import Derived.OpenShut
import Derived.IntWalk
import Derived.Outline
import Derived.Test.YtgeldmhgbnamcaaXa0
import Derived.Test.YtgeldmhgbnamcaaXa1
import Derived.Test.YtgeldmhgbnamcaaXa2
import Derived.Test.YtgeldmhgbnamcaaXa5
import Derived.Test.YtgeldmhgbnamcaaXa6
import Derived.Test.YtgeldmhgbnamcaaXa7
section
/- Plain laws of batches, fifth part: Of, Same, Fix. -/
namespace Go.Proofs.Ytgeldmhgbnamcaa.Pure
open Go.RowKit Go.Proofs.Ytgeldmhgbnamcaa.P Go.Proofs.YtgeldmhgbnamcaaW.PrintWords Go.Proofs.YtgeldmhgbnamcaaW.PrintLast
set_option linter.unusedVariables false
set_option linter.unusedSimpArgs false
theorem find_l0 (X : List S50) (q : S50) (hs : Str X) (hl : X.length ≤ 4000000000000000000) : ∀ (n : Nat) (A M C : List S50), M.length ≤ n → X = A ++ M ++ C → (∀ a ∈ A, kl a q) → (∀ c ∈ C, ¬ kl c q) →
  ∃ A' C' : List S50, X = A' ++ C' ∧ (∀ a ∈ A', kl a q) ∧ (∀ c ∈ C', ¬ kl c q) ∧ Ev (fun k => batch_Change_55.l0 k X (X.length : Int) (A.length : Int) ((A.length + M.length : Nat) : Int) q.f0 q.f1 q.f2) ((A'.length : Int), match C' with | [] => false | c :: _ => decide (ke c q)) := by
 intro n
 induction n with
 | zero =>
  intro A M C hM e hA hC
  obtain rfl : M = [] := List.eq_nil_of_length_eq_zero (by omega)
  rw [List.append_nil] at e
  refine ⟨A, C, e, hA, hC, ?_⟩
  cases C with
  | nil =>
   refine ⟨1, fun k hk => ?_⟩
   obtain ⟨k, rfl⟩ : ∃ m, k = m + 1 := ⟨k - 1, by omega⟩
   show batch_Change_55.l0 (k + 1) _ _ _ _ _ _ _ = _
   rw [batch_Change_55.l0, if_neg (by simp), if_neg (by rw [e]; simp)]
  | cons c C =>
   obtain ⟨K, o⟩ := order_at c q
   refine ⟨K + 1, fun k hk => ?_⟩
   obtain ⟨k, rfl⟩ : ∃ m, k = m + 1 := ⟨k - 1, by omega⟩
   have o := o k (by omega); dsimp only at o
   have ll : X.length = A.length + (C.length + 1) := by rw [e]; simp
   have e1 : rd_T50 X (A.length : Int) = c := by rw [e]; exact rd5 _ _ _ rfl
   show batch_Change_55.l0 (k + 1) _ _ _ _ _ _ _ = _
   rw [batch_Change_55.l0, if_neg (by simp), if_pos (by omega), if_pos (by omega), if_pos (by omega), e1, o, Option.bind_some]
   by_cases hk : ke c q
   ·have : ordv c q = 0 := ordv_zero.2 hk
    simp [this, hk]
   ·have : ¬ ordv c q = 0 := fun h => hk (ordv_zero.1 h)
    simp [this, hk]
 | succ n ih =>
  intro A M C hM e hA hC
  by_cases hm : M.length ≤ n
  ·exact ih A M C hm e hA hC
  have hp : M.length / 2 < M.length := by omega
  have ed : M = M.take (M.length / 2) ++ M[M.length / 2] :: M.drop (M.length / 2 + 1) := by rw [List.getElem_cons_drop]; simp
  have l1 : (M.take (M.length / 2)).length = M.length / 2 := by simp; omega
  generalize M.take (M.length / 2) = M1 at *
  generalize M[M.length / 2] = m at *
  generalize M.drop (M.length / 2 + 1) = M2 at *
  have lM : M.length = M1.length + (M2.length + 1) := by rw [ed]; simp
  have ll : X.length = A.length + M.length + C.length := by rw [e]; simp only [List.length_append]
  have hmid := mid (i := A.length) (j := A.length + M.length) (by omega) (by omega)
  have ehm : A.length + (A.length + M.length - A.length) / 2 = A.length + M1.length := by omega
  rw [ehm] at hmid
  have eX : X = (A ++ M1) ++ m :: (M2 ++ C) := by rw [e, ed]; simp
  have e1 : rd_T50 X ((A.length + M1.length : Nat) : Int) = m := by rw [eX]; exact rd5 _ _ _ (by simp)
  obtain ⟨K, o⟩ := order_at m q
  have hs' : Str ((A ++ M1) ++ m :: (M2 ++ C)) := eX ▸ hs
  obtain ⟨p1, p2, p3⟩ := List.pairwise_append.1 hs'
  by_cases hk : kl m q
  ·obtain ⟨A', C', x1, x2, x3, K1, h1⟩ := ih (A ++ M1 ++ [m]) M2 C (by omega) (by rw [eX]; simp)
    (fun a ha => by
     rcases List.mem_append.1 ha with h | h
     ·exact kl_trans (p3 a h m (by simp)) hk
     ·simp at h; subst h; exact hk) hC
   refine ⟨A', C', x1, x2, x3, K + K1 + 1, fun k hk' => ?_⟩
   obtain ⟨k, rfl⟩ : ∃ m, k = m + 1 := ⟨k - 1, by omega⟩
   have o := o k (by omega); dsimp only at o
   have h1 := h1 k (by omega); dsimp only at h1
   have ea : wrap64 (((A.length + M1.length : Nat) : Int) + 1) = ((A ++ M1 ++ [m]).length : Int) := by rw [w64s (by omega)]; simp only [List.length_append, List.length_singleton]
   have eb : (((A ++ M1 ++ [m]).length + M2.length : Nat) : Int) = ((A.length + M.length : Nat) : Int) := by simp; omega
   show batch_Change_55.l0 (k + 1) _ _ _ _ _ _ _ = _
   rw [batch_Change_55.l0, if_pos (by omega), hmid, if_pos (by omega), if_pos (by omega), e1, o, Option.bind_some, if_pos (ordv_neg.2 hk), ea, ← eb]
   exact h1
  ·obtain ⟨A', C', x1, x2, x3, K1, h1⟩ := ih A M1 (m :: (M2 ++ C)) (by omega) (by rw [eX]) hA
    (fun c hc => by
     rcases List.mem_cons.1 hc with rfl | h
     ·exact hk
     ·have := (List.pairwise_cons.1 p2).1 c h; intro hk2; exact hk (kl_trans this hk2))
   refine ⟨A', C', x1, x2, x3, K + K1 + 1, fun k hk' => ?_⟩
   obtain ⟨k, rfl⟩ : ∃ m, k = m + 1 := ⟨k - 1, by omega⟩
   have o := o k (by omega); dsimp only at o
   have h1 := h1 k (by omega); dsimp only at h1
   show batch_Change_55.l0 (k + 1) _ _ _ _ _ _ _ = _
   rw [batch_Change_55.l0, if_pos (by omega), hmid, if_pos (by omega), if_pos (by omega), e1, o, Option.bind_some, if_neg (fun h => hk (ordv_neg.1 h))]
   exact h1
theorem of_ev (X : List S50) (hs : Str X) (hl : X.length ≤ 4000000000000000000) (a b : Int) : Ev (fun k => batch_Of.f k X a b) (ofv X ⟨a, b, 0⟩) := by
 obtain ⟨A, C, e, hA, hC, K, h⟩ := find_l0 X ⟨a, b, 0⟩ hs hl X.length [] X [] (Nat.le_refl _) (by simp) (fun _ h => by cases h) (fun _ h => by cases h)
 have nA : ∀ y ∈ A, ¬ ke y ⟨a, b, 0⟩ := fun y hy h => by have := hA y hy; unfold kl ke at *; omega
 have fA : A.find? (fun y => decide (ke y ⟨a, b, 0⟩)) = none := List.find?_eq_none.2 (fun y hy => by simpa using nA y hy)
 refine ⟨K, fun k hk => ?_⟩
 have h := h k hk
 simp only [List.length_nil, Nat.zero_add] at h
 have h : batch_Change_55.l0 k X (X.length : Int) 0 (X.length : Int) a b 0 = _ := h
 show batch_Of.f k X a b = _
 rw [batch_Of.f, batch_Change_55.f, h, Option.bind_some]
 cases C with
 | nil =>
  have : ofv X ⟨a, b, 0⟩ = 0 := by unfold ofv; rw [e, List.find?_append, fA]; rfl
  simp [this]
 | cons c C =>
  have ll : X.length = A.length + (C.length + 1) := by rw [e]; simp
  have e1 : rd_T50 X (A.length : Int) = c := by rw [e]; exact rd5 _ _ _ rfl
  by_cases hk : ke c ⟨a, b, 0⟩
  ·have : ofv X ⟨a, b, 0⟩ = c.f2 := by unfold ofv; rw [e, List.find?_append, fA]; simp [hk]
   dsimp only
   rw [if_pos (decide_eq_true hk), if_pos (by omega), if_pos (by omega), e1, this]
  ·have : ofv X ⟨a, b, 0⟩ = 0 := by
    have fC : (c :: C).find? (fun y => decide (ke y ⟨a, b, 0⟩)) = none := List.find?_eq_none.2 (fun y hy => by
     have hs' : Str (A ++ c :: C) := e ▸ hs
     have p2 := (List.pairwise_append.1 hs').2.1
     rcases List.mem_cons.1 hy with rfl | hy
     ·simpa using hk
     ·have a1 := (List.pairwise_cons.1 p2).1 y hy
      have a2 := hC c (by simp)
      have : ¬ ke y ⟨a, b, 0⟩ := by unfold kl ke at *; omega
      simpa using this)
    unfold ofv; rw [e, List.find?_append, fA, fC]; rfl
   dsimp only
   rw [if_neg (fun h => hk (of_decide_eq_true h)), this]
/-! ### Fix -/
end Go.Proofs.Ytgeldmhgbnamcaa.Pure
end
section
-- Printed by the session's own turn of the print (wip/tools/print2.sh): some callees are proved by hand.
namespace Go.Proofs.Ytgeldmhgbnamcaa.P
open Go.RowKit Go.Proofs.YtgeldmhgbnamcaaW.PrintWords Go.Proofs.YtgeldmhgbnamcaaW.PrintLast Go.Proofs.YtgeldmhgbnamcaaW.PrintMore
attribute [local go_sem] max2_int min2_int max_two min_two max_three min_three max_four min_four   -- for this text's walks alone
theorem cell_set_twice (w : World) (a : Addr) (x v : Value) (h : (w.cell? a).isSome = true) : ((w.setCell a x).setCell a v).cell? a = some v :=
 World.cell?_setCell_same' _ _ _ (by rw [World.cell?_setCell_same' _ _ _ h]; rfl)
attribute [local go_sem] cell_set_twice
set_option linter.unusedVariables false
set_option linter.unusedSimpArgs false
/-! ### marchlandref04_Fix: function 26 -/
def marchlandref04_Fix.l0 : Nat → List (S40) → List (S40) → Int → Option ((List (S40)))
 | 0, _, _, _ => none
 | k + 1, x0, x3, x4 => if x4 < (x0.length : Int) then (if x4 < 12 then (if 0 ≤ x4 then (if x3.length < 5864062014805 then (marchlandref04_Fix.l0 k x0 (x3 ++ [(⟨(rd_T40 x0 x4).f0, (rd_T40 x0 x4).f1, wrap64 (1 + (wrap64 (Int.tmod (IntKind.u64.wrap ((rd_T40 x0 x4).f2)) 5)))⟩ : S40)]) (wrap64 (x4 + 1))) else (none)) else (none)) else ((marchlandref03_Fix.f k x3).bind fun t362 => (some t362))) else ((marchlandref03_Fix.f k x3).bind fun t365 => (some t365))
def marchlandref04_Fix.f (k : Nat) (l0 : List (S40)) : Option ((List (S40))) := marchlandref04_Fix.l0 k l0 ([] : List (S40)) 0
set_option maxHeartbeats 8000000 in
set_option maxRecDepth 100000 in
theorem marchlandref04_Fix.calls (k : Nat) (A0 : Option Addr) (c0 : Nat) (l0 : List (S40)) (r : List (S40)) (w : World) (hr0 : Kd.C k40 w A0 l0.length l0) (hc0 : l0.length ≤ c0) (h : marchlandref04_Fix.f k l0 = some r) :
  Calls Try.prog 26 #[.slice A0 l0.length c0] w fun e w' => ∃ v0_ : Value, e = .returned (v0_) ∧ Kd.R k40 40 w' w.heap.size (fun _ => True) v0_ r ∧ Below w.heap.size w w' := by
 have hu40 := Try.underlying40
 have HR0 := Aside0.mk hr0
 have HC0 := Aside0.mk hc0
 clear hr0 hc0
 have HB := Aside0.mk (Below.refl w.heap.size w)
 have H : (marchlandref04_Fix.l0 k l0 ([] : List (S40)) 0) = some r := h
 clear h
 have H' := Aside0.mk H
 clear H
 go_enter Try.func26, Try.ntmps26
 go_wp2
 go_loopg [3, 4] k (fun kq v3 v4 w' => ∃ (x3_1 : List (S40)) (x4_1 : Int), v4 = .int .i64 x4_1 ∧ Aside0 (marchlandref04_Fix.l0 kq l0 x3_1 x4_1 = some r) ∧ Aside0 (kq ≤ k) ∧ Aside0 (Kd.R k40 40 w' w.heap.size (fun _ => True) v3 x3_1) ∧ Aside0 (Below w.heap.size w w'))
 case atStart => exact ⟨(([] : List (S40))), (0), (by first | rfl | (simp; done) | (simp [*]; done)), H', ⟨Nat.le_refl _⟩, ⟨by first | exact Kd.R_nil _ _ _ _ _ | exact Kd.N_nil _ _ _ _ _ | exact Kd.V_nil _ _ _ _ _ | exact Kd.Q_nil _ _ _ _ _ | exact Kd.S_nil _ _ _ _ _⟩, ⟨by repeat (first | (with_reducible first | exact HB.out | apply below_alloc | apply pw_below_drewN | apply below_drew1) | exact HB.out)⟩⟩
 case round =>
  clear H'
  obtain ⟨x3_1, x4_1, rfl, HA, HK1, HO_3, HB⟩ := hrel
  cases gk with
  | zero => exact absurd HA.out (by simp [marchlandref04_Fix.l0])
  | succ k1 =>
   have H := HA.out
   clear HA
   simp only [marchlandref04_Fix.l0] at H
   by_cases c2 : x4_1 < (l0.length : Int)
   ·rw [if_pos c2] at H
    have c2b0 : decide (x4_1 < (l0.length : Int)) = true := decide_eq_true c2
    clear c2
    by_cases c3 : x4_1 < 12
    ·rw [if_pos c3] at H
     have c3b0 : decide (x4_1 < 12) = true := decide_eq_true c3
     clear c3
     by_cases c4 : 0 ≤ x4_1
     ·rw [if_pos c4] at H
      have c4b0 : decide (0 ≤ x4_1) = true := decide_eq_true c4
      clear c4
      by_cases c5 : x3_1.length < 5864062014805
      ·rw [if_pos c5] at H
       have LMc5 := Aside0.mk c5
       clear c5
       obtain ⟨y359, hy359⟩ : ∃ y_ : List (S40), y_ = (x3_1 ++ [(⟨(rd_T40 l0 x4_1).f0, (rd_T40 l0 x4_1).f1, wrap64 (1 + (wrap64 (Int.tmod (IntKind.u64.wrap ((rd_T40 l0 x4_1).f2)) 5)))⟩ : S40)]) := ⟨_, rfl⟩
       replace H : (marchlandref04_Fix.l0 k1 l0 y359 (wrap64 (x4_1 + 1))) = some r := by first | (rw [hy359]; with_reducible exact H) | (have H2_ := (Option.bind_some _ _).symm.trans H; rw [hy359]; with_reducible exact H2_) | (have H2_ := (Option.bind_some _ _).symm.trans H; with_reducible exact H2_) | with_reducible exact H | (rw [hy359]; exact H) | exact H
       have Ny359 := Aside0.mk hy359
       clear hy359
       have H' := Aside0.mk H
       clear H
       have p357 : 0 ≤ (x4_1 : Int) := of_decide_eq_true (by assumption)
       have q357 : x4_1 < (l0.length : Int) := of_decide_eq_true (by assumption)
       obtain ⟨ad357, e357, hx357_0, hx357_1, hx357_2⟩ := at_T40 HR0.out x4_1 p357 q357
       cases e357
       replace hx357_0 := (HB.out.cell (World.block_lt_of_cell? w _ hx357_0)).trans hx357_0
       replace hx357_1 := (HB.out.cell (World.block_lt_of_cell? w _ hx357_1)).trans hx357_1
       replace hx357_2 := (HB.out.cell (World.block_lt_of_cell? w _ hx357_2)).trans hx357_2
       replace p357 := eq_true p357
       replace q357 := eq_true q357
       go_wp2_with (first | ((with_reducible refine gate_dst (N := 5) rfl ?_); refine box_event ?hg (N := 5) ?hd (cs := #[.int .i64 0, .int .u64 0, .int .i64 0]) (t := 40) ?hr ?_; (case hd => rfl); (case hg => rfl); (case hr => first | (go_simp; done) | (go_simp; rfl)); intro gb358 hg w6 hbox hb; have n0_ := Aside0.mk (Kd.R_below (Kd.R_elderB (rn HO_3) gb358 (Nat.le_of_eq hg.symm)) hb); have n2_ := Aside0.mk (hbox); have n3_ := Aside0.mk ((by rw [hg]; exact (below_size (bn HB)) : w.heap.size ≤ gb358)); have n4_ := Aside0.mk ((by rw [hg]; exact (below_size (bn HB)) : w.heap.size ≤ gb358)); clear HO_3; have HO_3 := n0_; replace HB := bb HB hb; have BK358 := n2_; have GW358 := n3_; have GE358 := n4_; clear n0_ n2_ n3_ n4_; clear hb hbox hg; have hcz7_0 : w6.cell? ⟨gb358, 0, none⟩ = some (.int .i64 0) := (blk_cell BK358.out 0).trans rfl; have hcz7_1 : w6.cell? ⟨gb358, 1, none⟩ = some (.int .u64 0) := (blk_cell BK358.out 1).trans rfl; have hcz7_2 : w6.cell? ⟨gb358, 2, none⟩ = some (.int .i64 0) := (blk_cell BK358.out 2).trans rfl; have hfz7_0 := blk_frozen BK358.out 0; have hfz7_1 := blk_frozen BK358.out 1; have hfz7_2 := blk_frozen BK358.out 2) | ((with_reducible refine gate_builtin (b := .append) (xs := #[.tmp 27, .tmp 29]) rfl ?_); at_builtin; refine Kd.R_append k40 (w0 := w) w.heap.size rfl (.tmp 27) (.tmp 29) 22 40 (.agg #[(.int .i64 0), (.int .u64 0), (.int .i64 0)]) 24 rfl Try.underlying22 info40 rfl (by decide) (by omega) u3 x3_1 (⟨(rd_T40 l0 x4_1).f0, (rd_T40 l0 x4_1).f1, wrap64 (1 + (wrap64 (Int.tmod (IntKind.u64.wrap ((rd_T40 l0 x4_1).f2)) 5)))⟩ : S40) [.int .i64 ((rd_T40 l0 x4_1).f0), .int .u64 ((rd_T40 l0 x4_1).f1), .int .i64 (wrap64 (1 + (wrap64 (Int.tmod (IntKind.u64.wrap ((rd_T40 l0 x4_1).f2)) 5))))] (fun k_ => k_ ≠ gb358) (fun _ => False) rfl (by first | (go_simp; done) | (go_simp; rfl)) ?aP (fun _ hk => hk.elim) ?aF ?aO ?aB ?aS ?aL ?_; (case aP => exact k40_mkM _ _ _ (⟨(rd_T40 l0 x4_1).f0, (rd_T40 l0 x4_1).f1, wrap64 (1 + (wrap64 (Int.tmod (IntKind.u64.wrap ((rd_T40 l0 x4_1).f2)) 5)))⟩ : S40)); (case aB => exact (by repeat (first | (with_reducible first | exact HB.out | apply below_alloc | apply pw_below_drewN | apply below_drew1 | refine below_set ?_ GE358.out) | exact HB.out))); (case aF => exact (fun k_ hk => Kd.freshB (g := gb358) (o := .cells #[.int .i64 ((rd_T40 l0 x4_1).f0), .int .u64 ((rd_T40 l0 x4_1).f1), .int .i64 (wrap64 (1 + (wrap64 (Int.tmod (IntKind.u64.wrap ((rd_T40 l0 x4_1).f2)) 5))))] 40 (0, 0)) (by (with_reducible repeat (first | refine blk_drewN ?_ _ | refine blk_drew ?_ | refine blk_alloc ?_ _)); refine blk_put (cs := #[.int .i64 ((rd_T40 l0 x4_1).f0), .int .u64 ((rd_T40 l0 x4_1).f1), .int .i64 ((rd_T40 l0 x4_1).f2)]) ?_ 2 _ rfl; (with_reducible repeat (first | refine blk_drewN ?_ _ | refine blk_drew ?_ | refine blk_alloc ?_ _)); refine blk_put (cs := #[.int .i64 ((rd_T40 l0 x4_1).f0), .int .u64 ((rd_T40 l0 x4_1).f1), .int .i64 0]) ?_ 2 _ rfl; (with_reducible repeat (first | refine blk_drewN ?_ _ | refine blk_drew ?_ | refine blk_alloc ?_ _)); refine blk_put (cs := #[.int .i64 ((rd_T40 l0 x4_1).f0), .int .u64 0, .int .i64 0]) ?_ 1 _ rfl; (with_reducible repeat (first | refine blk_drewN ?_ _ | refine blk_drew ?_ | refine blk_alloc ?_ _)); refine blk_put (cs := #[.int .i64 0, .int .u64 0, .int .i64 0]) ?_ 0 _ rfl; (with_reducible repeat (first | refine blk_drewN ?_ _ | refine blk_drew ?_ | refine blk_alloc ?_ _)); exact BK358.out) k_ hk)); (case aO => exact (by (with_reducible repeat (first | apply Kd.R_alloc | apply Kd.R_drewN | apply Kd.R_drew)); exact Kd.R_mono (Kd.R_far (p := ⟨gb358, 2, none⟩) (Kd.R_far (p := ⟨gb358, 2, none⟩) (Kd.R_far (p := ⟨gb358, 1, none⟩) (Kd.R_far (p := ⟨gb358, 0, none⟩) (Kd.R_mono HO_3.out (fun k_ hk => (⟨hk, hk.2⟩ : _ ∧ k_ ≠ gb358))) (fun _ hk => hk.2) (.int .i64 ((rd_T40 l0 x4_1).f0))) (fun _ hk => hk.2) (.int .u64 ((rd_T40 l0 x4_1).f1))) (fun _ hk => hk.2) (.int .i64 ((rd_T40 l0 x4_1).f2))) (fun _ hk => hk.2) (.int .i64 (wrap64 (1 + (wrap64 (Int.tmod (IntKind.u64.wrap ((rd_T40 l0 x4_1).f2)) 5)))))) (fun _ hk => hk.1.2))); (case aS => exact (below_size (by repeat (first | (with_reducible first | exact HB.out | apply below_alloc | apply pw_below_drewN | apply below_drew1 | refine below_set ?_ GE358.out) | exact HB.out)))); (case aL => have := LMc5.out; omega); intro v360 w8 ho hb hg hat; rw [← Ny359.out] at ho; have n0_ := Aside0.mk (blk_grown (g := gb358) (o := .cells #[.int .i64 ((rd_T40 l0 x4_1).f0), .int .u64 ((rd_T40 l0 x4_1).f1), .int .i64 (wrap64 (1 + (wrap64 (Int.tmod (IntKind.u64.wrap ((rd_T40 l0 x4_1).f2)) 5))))] 40 (0, 0)) (by (with_reducible repeat (first | refine blk_drewN ?_ _ | refine blk_drew ?_ | refine blk_alloc ?_ _)); refine blk_put (cs := #[.int .i64 ((rd_T40 l0 x4_1).f0), .int .u64 ((rd_T40 l0 x4_1).f1), .int .i64 ((rd_T40 l0 x4_1).f2)]) ?_ 2 _ rfl; (with_reducible repeat (first | refine blk_drewN ?_ _ | refine blk_drew ?_ | refine blk_alloc ?_ _)); refine blk_put (cs := #[.int .i64 ((rd_T40 l0 x4_1).f0), .int .u64 ((rd_T40 l0 x4_1).f1), .int .i64 0]) ?_ 2 _ rfl; (with_reducible repeat (first | refine blk_drewN ?_ _ | refine blk_drew ?_ | refine blk_alloc ?_ _)); refine blk_put (cs := #[.int .i64 ((rd_T40 l0 x4_1).f0), .int .u64 0, .int .i64 0]) ?_ 1 _ rfl; (with_reducible repeat (first | refine blk_drewN ?_ _ | refine blk_drew ?_ | refine blk_alloc ?_ _)); refine blk_put (cs := #[.int .i64 0, .int .u64 0, .int .i64 0]) ?_ 0 _ rfl; (with_reducible repeat (first | refine blk_drewN ?_ _ | refine blk_drew ?_ | refine blk_alloc ?_ _)); exact BK358.out) hg (Kd.R_away HO_3.out (fun _ hk => hk.2))); have n1_ := Aside0.mk (hb); have n2_ := Aside0.mk (ho); clear BK358; clear HB; clear HO_3; have BK358 := n0_; have HB := n1_; have HO361 := n2_; clear n0_ n1_ n2_; clear ho hb hg hat))
       go_roundg k1
       case measure => have := HK1.out; omega
       case rel => exact ⟨(y359), (wrap64 (x4_1 + 1)), (by first | rfl | (simp; done) | (simp [*]; done)), H', ⟨by have := HK1.out; omega⟩, ⟨by (with_reducible repeat (first | apply Kd.R_alloc | apply Kd.R_drewN | apply Kd.R_drew)); exact Kd.R_mono HO361.out (fun _ hk => trivial)⟩, ⟨by repeat (first | (with_reducible first | exact HB.out | apply below_alloc | apply pw_below_drewN | apply below_drew1 | refine below_set ?_ GE358.out) | exact HB.out)⟩⟩
      ·rw [if_neg c5] at H
       exact absurd H (by simp)
     ·rw [if_neg c4] at H
      exact absurd H (by simp)
    ·rw [if_neg c3] at H
     have c3b0 : decide (x4_1 < 12) = false := decide_eq_false c3
     clear c3
     replace H := Option.bind_eq_some_iff.mp H
     obtain ⟨t362, A90, H⟩ := H
     replace H : (some t362) = some r := H
     have A9 := Aside0.mk A90
     clear A90
     obtain rfl := Option.some.inj H
     obtain ⟨Ao10, co10, eo10⟩ := Kd.R_slice HO_3.out
     subst eo10
     go_wp2_with (first | ((with_reducible refine gate_callee (f := 22) rfl ?_); refine gl (some 32) Try.func22 #[.slice Ao10 x3_1.length co10] ?_; (with_reducible refine (marchlandref03_Fix.calls k1 _ _ x3_1 t362 _ ?side1 ?side2 A9.out).mono ?_); (case side1 => exact rc HO_3); (case side2 => exact rs HO_3); rintro e w11 ⟨v363, rfl, ho0, hb⟩; refine ⟨_, rfl, ?_⟩; have n1_ := Aside0.mk (Kd.R_lower (Kd.R_new' ho0 (Kd.R_lt (rn HO_3))) (below_size (bn HB))); replace HO_3 := rl HO_3 (Kd.R_base ho0) hb; have HO364 := n1_; replace HB := bb HB hb; clear n1_; (try clear hb); (try clear ho0)))
     go_ret
     exact ⟨_, by first | rfl | (simp [errW_none, errW_some] <;> rfl) | (simp [*, errW_none, errW_some] <;> rfl), by (with_reducible repeat (first | apply Kd.R_alloc | apply Kd.R_drewN | apply Kd.R_drew)); exact Kd.R_mono HO364.out (fun _ hk => trivial), by repeat (first | (with_reducible first | exact HB.out | apply below_alloc | apply pw_below_drewN | apply below_drew1) | exact HB.out)⟩
   ·rw [if_neg c2] at H
    have c2b0 : decide (x4_1 < (l0.length : Int)) = false := decide_eq_false c2
    clear c2
    replace H := Option.bind_eq_some_iff.mp H
    obtain ⟨t365, A120, H⟩ := H
    replace H : (some t365) = some r := H
    have A12 := Aside0.mk A120
    clear A120
    obtain rfl := Option.some.inj H
    obtain ⟨Ao13, co13, eo13⟩ := Kd.R_slice HO_3.out
    subst eo13
    go_wp2_with (first | ((with_reducible refine gate_callee (f := 22) rfl ?_); refine gl (some 32) Try.func22 #[.slice Ao13 x3_1.length co13] ?_; (with_reducible refine (marchlandref03_Fix.calls k1 _ _ x3_1 t365 _ ?side1 ?side2 A12.out).mono ?_); (case side1 => exact rc HO_3); (case side2 => exact rs HO_3); rintro e w14 ⟨v366, rfl, ho0, hb⟩; refine ⟨_, rfl, ?_⟩; have n1_ := Aside0.mk (Kd.R_lower (Kd.R_new' ho0 (Kd.R_lt (rn HO_3))) (below_size (bn HB))); replace HO_3 := rl HO_3 (Kd.R_base ho0) hb; have HO367 := n1_; replace HB := bb HB hb; clear n1_; (try clear hb); (try clear ho0)))
    go_ret
    exact ⟨_, by first | rfl | (simp [errW_none, errW_some] <;> rfl) | (simp [*, errW_none, errW_some] <;> rfl), by (with_reducible repeat (first | apply Kd.R_alloc | apply Kd.R_drewN | apply Kd.R_drew)); exact Kd.R_mono HO367.out (fun _ hk => trivial), by repeat (first | (with_reducible first | exact HB.out | apply below_alloc | apply pw_below_drewN | apply below_drew1) | exact HB.out)⟩
end Go.Proofs.Ytgeldmhgbnamcaa.P
end
section
-- Printed by the session's own turn of the print (wip/tools/print2.sh): some callees are proved by hand.
namespace Go.Proofs.Ytgeldmhgbnamcaa.P
open Go.RowKit Go.Proofs.YtgeldmhgbnamcaaW.PrintWords Go.Proofs.YtgeldmhgbnamcaaW.PrintLast Go.Proofs.YtgeldmhgbnamcaaW.PrintMore
attribute [local go_sem] max2_int min2_int max_two min_two max_three min_three max_four min_four   -- for this text's walks alone
set_option linter.unusedVariables false
set_option linter.unusedSimpArgs false
/-! ### bag_Least: function 30 -/
def bag_Least.l0 : Nat → Int → List (S50) → Int → Int → Option (Int)
 | 0, _, _, _, _ => none
 | k + 1, x1, x7, x8, x9 => if x9 < x8 then (if 0 ≤ x9 then (if x9 < (x7.length : Int) then (if ((rd_T50 x7 x9).f0) = x1 then (some ((rd_T50 x7 x9).f1)) else (bag_Least.l0 k x1 x7 x8 (wrap64 (x9 + 1)))) else (none)) else (none)) else (some 18446744073709551615)
def bag_Least.f (k : Nat) (l0 : List (S50)) (a1 : Int) : Option (Int) := bag_Least.l0 k a1 l0 (l0.length : Int) 0
theorem bag_Least.mono_l : ∀ k, (∀ y0 y1 y2 y3, LeO (bag_Least.l0 k y0 y1 y2 y3) (bag_Least.l0 (k + 1) y0 y1 y2 y3))
 | 0 => fun _ _ _ _ r h => by simp [bag_Least.l0] at h
 | k + 1 => by
  have ih0 := bag_Least.mono_l k
  ·intro y0 y1 y2 y3
   unfold bag_Least.l0
   repeat' first
   | (with_reducible exact ih0 _ _ _ _)
   | (with_reducible exact LeO.refl _)
   | (with_reducible exact LeO.none _)
   | (with_reducible refine LeO.ite ?_ ?_)
   | (with_reducible refine LeO.bind ?_ (fun _ => ?_))
   | exact ih0 _ _ _ _
   | exact LeO.none _
   | refine LeO.ite ?_ ?_
   | refine LeO.bind ?_ (fun _ => ?_)
theorem bag_Least.mono : ∀ a0 a1 k, LeO (bag_Least.f k a0 a1) (bag_Least.f (k + 1) a0 a1) := by
 intro a0 a1 k
 have ih0 := bag_Least.mono_l k
 unfold bag_Least.f
 repeat' first
   | (with_reducible exact ih0 _ _ _ _)
   | (with_reducible exact LeO.refl _)
   | (with_reducible exact LeO.none _)
   | (with_reducible refine LeO.ite ?_ ?_)
   | (with_reducible refine LeO.bind ?_ (fun _ => ?_))
   | exact ih0 _ _ _ _
   | exact LeO.none _
   | refine LeO.ite ?_ ?_
   | refine LeO.bind ?_ (fun _ => ?_)
set_option maxHeartbeats 8000000 in
set_option maxRecDepth 100000 in
theorem bag_Least.calls (k : Nat) (A0 : Option Addr) (c0 : Nat) (l0 : List (S50)) (a1 : Int) (r : Int) (w : World) (hr0 : Kd.C k50 w A0 l0.length l0) (hc0 : l0.length ≤ c0) (h : bag_Least.f k l0 a1 = some r) :
  Calls Try.prog 30 #[.slice A0 l0.length c0, .int .i64 a1] w fun e w' => e = .returned (.int .u64 r) ∧ Below w.heap.size w w' := by
 have hu50 := Try.underlying50
 have HR0 := Aside0.mk hr0
 have HC0 := Aside0.mk hc0
 clear hr0 hc0
 have HB := Aside0.mk (Below.refl w.heap.size w)
 have H : (bag_Least.l0 k a1 l0 (l0.length : Int) 0) = some r := h
 clear h
 have H' := Aside0.mk H
 clear H
 go_enter Try.func30, Try.ntmps30
 go_wp2
 go_loopg [9] k (fun kq v9 w' => ∃ (x9_1 : Int), v9 = .int .i64 x9_1 ∧ Aside0 (bag_Least.l0 kq a1 l0 (l0.length : Int) x9_1 = some r) ∧ Aside0 (kq ≤ k) ∧ Aside0 (Below w.heap.size w w'))
 case atStart => exact ⟨(0), (by first | rfl | (simp; done) | (simp [*]; done)), H', ⟨Nat.le_refl _⟩, ⟨by repeat (first | (with_reducible first | exact HB.out | apply below_alloc | apply pw_below_drewN | apply below_drew1) | exact HB.out)⟩⟩
 case round =>
  clear H'
  (try clear p2)
  obtain ⟨x9_1, rfl, HA, HK1, HB⟩ := hrel
  cases gk with
  | zero => exact absurd HA.out (by simp [bag_Least.l0])
  | succ k1 =>
   have H := HA.out
   clear HA
   simp only [bag_Least.l0] at H
   by_cases c3 : x9_1 < (l0.length : Int)
   ·rw [if_pos c3] at H
    have c3b0 : decide (x9_1 < (l0.length : Int)) = true := decide_eq_true c3
    clear c3
    by_cases c4 : 0 ≤ x9_1
    ·rw [if_pos c4] at H
     have c4b0 : decide (0 ≤ x9_1) = true := decide_eq_true c4
     clear c4
     by_cases c5 : x9_1 < (l0.length : Int)
     ·rw [if_pos c5] at H
      have c5b0 : decide (x9_1 < (l0.length : Int)) = true := decide_eq_true c5
      clear c5
      by_cases c6 : ((rd_T50 l0 x9_1).f0) = a1
      ·rw [if_pos c6] at H
       have c6b0 : (((rd_T50 l0 x9_1).f0) == a1) = true := beq_iff_eq.mpr c6
       have c6b1 : (((rd_T50 l0 x9_1).f0) != a1) = false := bne_eq_false_iff_eq.mpr c6
       clear c6
       obtain rfl := Option.some.inj H
       have p392 : 0 ≤ (x9_1 : Int) := of_decide_eq_true (by assumption)
       have q392 : x9_1 < (l0.length : Int) := of_decide_eq_true (by assumption)
       obtain ⟨ad392, e392, hx392_0, hx392_1, hx392_2⟩ := at_T50 HR0.out x9_1 p392 q392
       cases e392
       replace hx392_0 := (HB.out.cell (World.block_lt_of_cell? w _ hx392_0)).trans hx392_0
       replace hx392_1 := (HB.out.cell (World.block_lt_of_cell? w _ hx392_1)).trans hx392_1
       replace hx392_2 := (HB.out.cell (World.block_lt_of_cell? w _ hx392_2)).trans hx392_2
       replace p392 := eq_true p392
       replace q392 := eq_true q392
       go_wp2_with (first | ((with_reducible refine gate_dst (N := 6) rfl ?_); refine box_event ?hg (N := 6) ?hd (cs := #[.int .i64 0, .int .u64 0, .int .i64 0]) (t := 50) ?hr ?_; (case hd => rfl); (case hg => rfl); (case hr => first | (go_simp; done) | (go_simp; rfl)); intro gb393 hg w7 hbox hb; have n1_ := Aside0.mk (hbox); have n2_ := Aside0.mk ((by rw [hg]; exact (below_size (bn HB)) : w.heap.size ≤ gb393)); have n3_ := Aside0.mk ((by rw [hg]; exact (below_size (bn HB)) : w.heap.size ≤ gb393)); replace HB := bb HB hb; have BK393 := n1_; have GW393 := n2_; have GE393 := n3_; clear n1_ n2_ n3_; clear hb hbox hg; have hcz8_0 : w7.cell? ⟨gb393, 0, none⟩ = some (.int .i64 0) := (blk_cell BK393.out 0).trans rfl; have hcz8_1 : w7.cell? ⟨gb393, 1, none⟩ = some (.int .u64 0) := (blk_cell BK393.out 1).trans rfl; have hcz8_2 : w7.cell? ⟨gb393, 2, none⟩ = some (.int .i64 0) := (blk_cell BK393.out 2).trans rfl; have hfz8_0 := blk_frozen BK393.out 0; have hfz8_1 := blk_frozen BK393.out 1; have hfz8_2 := blk_frozen BK393.out 2))
       go_ret
       exact ⟨by first | rfl | (simp [errW_none, errW_some] <;> rfl) | (simp [*, errW_none, errW_some] <;> rfl), by repeat (first | (with_reducible first | exact HB.out | apply below_alloc | apply pw_below_drewN | apply below_drew1 | refine below_set ?_ GE393.out) | exact HB.out)⟩
      ·rw [if_neg c6] at H
       have c6b0 : (((rd_T50 l0 x9_1).f0) == a1) = false := beq_eq_false_iff_ne.mpr c6
       have c6b1 : (((rd_T50 l0 x9_1).f0) != a1) = true := bne_iff_ne.mpr c6
       have H' := Aside0.mk H
       clear H
       have p392 : 0 ≤ (x9_1 : Int) := of_decide_eq_true (by assumption)
       have q392 : x9_1 < (l0.length : Int) := of_decide_eq_true (by assumption)
       obtain ⟨ad392, e392, hx392_0, hx392_1, hx392_2⟩ := at_T50 HR0.out x9_1 p392 q392
       cases e392
       replace hx392_0 := (HB.out.cell (World.block_lt_of_cell? w _ hx392_0)).trans hx392_0
       replace hx392_1 := (HB.out.cell (World.block_lt_of_cell? w _ hx392_1)).trans hx392_1
       replace hx392_2 := (HB.out.cell (World.block_lt_of_cell? w _ hx392_2)).trans hx392_2
       replace p392 := eq_true p392
       replace q392 := eq_true q392
       go_wp2_with (first | ((with_reducible refine gate_dst (N := 6) rfl ?_); refine box_event ?hg (N := 6) ?hd (cs := #[.int .i64 0, .int .u64 0, .int .i64 0]) (t := 50) ?hr ?_; (case hd => rfl); (case hg => rfl); (case hr => first | (go_simp; done) | (go_simp; rfl)); intro gb393 hg w9 hbox hb; have n1_ := Aside0.mk (hbox); have n2_ := Aside0.mk ((by rw [hg]; exact (below_size (bn HB)) : w.heap.size ≤ gb393)); have n3_ := Aside0.mk ((by rw [hg]; exact (below_size (bn HB)) : w.heap.size ≤ gb393)); replace HB := bb HB hb; have BK393 := n1_; have GW393 := n2_; have GE393 := n3_; clear n1_ n2_ n3_; clear hb hbox hg; have hcz10_0 : w9.cell? ⟨gb393, 0, none⟩ = some (.int .i64 0) := (blk_cell BK393.out 0).trans rfl; have hcz10_1 : w9.cell? ⟨gb393, 1, none⟩ = some (.int .u64 0) := (blk_cell BK393.out 1).trans rfl; have hcz10_2 : w9.cell? ⟨gb393, 2, none⟩ = some (.int .i64 0) := (blk_cell BK393.out 2).trans rfl; have hfz10_0 := blk_frozen BK393.out 0; have hfz10_1 := blk_frozen BK393.out 1; have hfz10_2 := blk_frozen BK393.out 2))
       go_roundg k1
       case measure => have := HK1.out; omega
       case rel => exact ⟨(wrap64 (x9_1 + 1)), (by first | rfl | (simp; done) | (simp [*]; done)), H', ⟨by have := HK1.out; omega⟩, ⟨by repeat (first | (with_reducible first | exact HB.out | apply below_alloc | apply pw_below_drewN | apply below_drew1 | refine below_set ?_ GE393.out) | exact HB.out)⟩⟩
     ·rw [if_neg c5] at H
      exact absurd H (by simp)
    ·rw [if_neg c4] at H
     exact absurd H (by simp)
   ·rw [if_neg c3] at H
    have c3b0 : decide (x9_1 < (l0.length : Int)) = false := decide_eq_false c3
    clear c3
    obtain rfl := Option.some.inj H
    go_wp2
    go_ret
    exact ⟨by first | rfl | (simp [errW_none, errW_some] <;> rfl) | (simp [*, errW_none, errW_some] <;> rfl), by repeat (first | (with_reducible first | exact HB.out | apply below_alloc | apply pw_below_drewN | apply below_drew1) | exact HB.out)⟩
end Go.Proofs.Ytgeldmhgbnamcaa.P
end
section
-- Printed by the session's own turn of the print (wip/tools/print2.sh): some callees are proved by hand.
namespace Go.Proofs.Ytgeldmhgbnamcaa.P
open Go.RowKit Go.Proofs.YtgeldmhgbnamcaaW.PrintWords Go.Proofs.YtgeldmhgbnamcaaW.PrintLast Go.Proofs.YtgeldmhgbnamcaaW.PrintMore
attribute [local go_sem] max2_int min2_int max_two min_two max_three min_three max_four min_four   -- for this text's walks alone
set_option linter.unusedVariables false
set_option linter.unusedSimpArgs false
/-! ### bag_Sum: function 32 -/
def bag_Sum.f (l0 : List (S50)) : Option (Int) := some (l0.length : Int)
set_option maxHeartbeats 8000000 in
set_option maxRecDepth 100000 in
theorem bag_Sum.calls (A0 : Option Addr) (c0 : Nat) (l0 : List (S50)) (r : Int) (w : World) (hr0 : Kd.C k50 w A0 l0.length l0) (hc0 : l0.length ≤ c0) (h : bag_Sum.f l0 = some r) :
  Calls Try.prog 32 #[.slice A0 l0.length c0] w fun e w' => e = .returned (.int .i64 r) ∧ Drawn0 w w' := by
 have HR0 := Aside0.mk hr0
 have HC0 := Aside0.mk hc0
 clear hr0 hc0
 have H : (some (l0.length : Int)) = some r := h
 clear h
 obtain rfl := Option.some.inj H
 go_enter Try.func32, Try.ntmps32
 go_wp2
 go_ret
 exact ⟨by first | rfl | (simp; done) | (simp [*]; done), by repeat (first | exact Drawn0.refl _ | apply Drawn0.step)⟩
end Go.Proofs.Ytgeldmhgbnamcaa.P
end
section
-- Printed by the session's own turn of the print (wip/tools/print2.sh): some callees are proved by hand.
namespace Go.Proofs.Ytgeldmhgbnamcaa.P
open Go.RowKit Go.Proofs.YtgeldmhgbnamcaaW.PrintWords Go.Proofs.YtgeldmhgbnamcaaW.PrintLast Go.Proofs.YtgeldmhgbnamcaaW.PrintMore
attribute [local go_sem] max2_int min2_int max_two min_two max_three min_three max_four min_four   -- for this text's walks alone
set_option linter.unusedVariables false
set_option linter.unusedSimpArgs false
/-! ### bag_Right: function 33 -/
def bag_Right.f (k : Nat) (l0 : List (S50)) : Option (Bool) := (batch_Right.f k l0).bind fun t395 => (if t395 = true then ((slices_ContainsNone.f l0).bind fun t396 => (some (!t396))) else (some false))
theorem bag_Right.mono : ∀ a0 k, LeO (bag_Right.f k a0) (bag_Right.f (k + 1) a0) := by
 intro a0 k
 unfold bag_Right.f
 repeat' first
   | (with_reducible exact batch_Right.mono _ _)
   | (with_reducible exact LeO.refl _)
   | (with_reducible exact LeO.none _)
   | (with_reducible refine LeO.ite ?_ ?_)
   | (with_reducible refine LeO.bind ?_ (fun _ => ?_))
   | exact batch_Right.mono _ _
   | exact LeO.none _
   | refine LeO.ite ?_ ?_
   | refine LeO.bind ?_ (fun _ => ?_)
set_option maxHeartbeats 8000000 in
set_option maxRecDepth 100000 in
theorem bag_Right.calls (k : Nat) (A0 : Option Addr) (c0 : Nat) (l0 : List (S50)) (r : Bool) (w : World) (hr0 : Kd.C k50 w A0 l0.length l0) (hc0 : l0.length ≤ c0) (h : bag_Right.f k l0 = some r) :
  Calls Try.prog 33 #[.slice A0 l0.length c0] w fun e w' => e = .returned (.bool r) ∧ Below w.heap.size w w' := by
 have HR0 := Aside0.mk hr0
 have HC0 := Aside0.mk hc0
 clear hr0 hc0
 have HB := Aside0.mk (Below.refl w.heap.size w)
 have H : ((batch_Right.f k l0).bind fun t395 => (if t395 = true then ((slices_ContainsNone.f l0).bind fun t396 => (some (!t396))) else (some false))) = some r := h
 clear h
 replace H := Option.bind_eq_some_iff.mp H
 obtain ⟨t395, A20, H⟩ := H
 replace H : (if t395 = true then ((slices_ContainsNone.f l0).bind fun t396 => (some (!t396))) else (some false)) = some r := H
 have A2 := Aside0.mk A20
 clear A20
 by_cases c3 : t395 = true
 ·subst c3
  have H1 : ((slices_ContainsNone.f l0).bind fun t396 => (some (!t396))) = some r := by rw [if_pos rfl] at H; exact H
  clear H
  have H := H1
  clear H1
  replace H := Option.bind_eq_some_iff.mp H
  obtain ⟨t396, A40, H⟩ := H
  replace H : (some (!t396)) = some r := H
  have A4 := Aside0.mk A40
  clear A40
  obtain rfl := Option.some.inj H
  go_enter Try.func33, Try.ntmps33
  go_wp2_with (first | ((with_reducible refine gate_callee (f := 20) rfl ?_); refine gl (some 4) Try.func20 #[.slice A0 l0.length c0] ?_; (with_reducible refine (batch_Right.calls k _ _ l0 true _ ?side1 ?side2 A2.out).mono ?_); (case side1 => exact cn HR0.out); (case side2 => exact HC0.out); rintro e w5 ⟨rfl, hb⟩; refine ⟨_, rfl, ?_⟩; replace HB := bb HB hb; (try clear hb)) | (go_at_call 59; (with_reducible refine (slices_ContainsNone.calls _ _ l0  t396 _ ?side1 ?side2 A4.out).mono ?_); (case side1 => repeat (first | exact (Kd.C_below HR0.out HB.out) | (with_reducible refine Kd.C_alloc ?_ _) | (with_reducible refine Kd.C_drewN ?_ _) | (with_reducible refine Kd.C_drew ?_))); (case side2 => exact HC0.out); rintro e w6 ⟨rfl, hb⟩; replace HB := bb HB hb; (try clear hb)))
  go_ret
  exact ⟨by first | rfl | (simp [errW_none, errW_some] <;> rfl) | (simp [*, errW_none, errW_some] <;> rfl), by repeat (first | (with_reducible first | exact HB.out | apply below_alloc | apply pw_below_drewN | apply below_drew1) | exact HB.out)⟩
 ·replace c3 := Bool.eq_false_iff.mpr c3
  subst c3
  have H1 : (some false) = some r := by rw [if_neg (show ¬ (false = true) by decide)] at H; exact H
  clear H
  have H := H1
  clear H1
  obtain rfl := Option.some.inj H
  go_enter Try.func33, Try.ntmps33
  go_wp2_with (first | ((with_reducible refine gate_callee (f := 20) rfl ?_); refine gl (some 4) Try.func20 #[.slice A0 l0.length c0] ?_; (with_reducible refine (batch_Right.calls k _ _ l0 false _ ?side1 ?side2 A2.out).mono ?_); (case side1 => exact cn HR0.out); (case side2 => exact HC0.out); rintro e w7 ⟨rfl, hb⟩; refine ⟨_, rfl, ?_⟩; replace HB := bb HB hb; (try clear hb)))
  go_ret
  exact ⟨by first | rfl | (simp [errW_none, errW_some] <;> rfl) | (simp [*, errW_none, errW_some] <;> rfl), by repeat (first | (with_reducible first | exact HB.out | apply below_alloc | apply pw_below_drewN | apply below_drew1) | exact HB.out)⟩
end Go.Proofs.Ytgeldmhgbnamcaa.P
end
section
-- Printed by the session's own turn of the print (wip/tools/print2.sh): some callees are proved by hand.
namespace Go.Proofs.Ytgeldmhgbnamcaa.P
open Go.RowKit Go.Proofs.YtgeldmhgbnamcaaW.PrintWords Go.Proofs.YtgeldmhgbnamcaaW.PrintLast Go.Proofs.YtgeldmhgbnamcaaW.PrintMore
attribute [local go_sem] max2_int min2_int max_two min_two max_three min_three max_four min_four   -- for this text's walks alone
set_option linter.unusedVariables false
set_option linter.unusedSimpArgs false
/-! ### marchlandlaw04_told: function 29 -/
def marchlandlaw04_told.f (k : Nat)  : Option (Bool) := (some (([(⟨1, 5, 2⟩ : S50), (⟨1, 9, 1⟩ : S50)] : List (S50)) : List (S50))).bind fun y397 => ((bag_Apply.f k y397 (([(⟨1, 5, (-2)⟩ : S50)] : List (S50)))).bind fun bt403 => ((bag_Apply.f k bt403.1 (([(⟨1, 5, (-1)⟩ : S50)] : List (S50)))).bind fun bt410 => ((bag_Least.f k y397 1).bind fun t414 => (if t414 = 5 then ((bag_Least.f k bt403.1 1).bind fun t415 => (if t415 = 9 then ((bag_Least.f k bt403.1 0).bind fun t416 => (if t416 = 18446744073709551615 then (if bt403.2 = 0 then (if bt410.2 = 11 then ((bag_Right.f k y397).bind fun t417 => (if t417 = true then ((bag_Sum.f bt403.1).bind fun t418 => (some (t418 == 1))) else (some false))) else (some false)) else (some false)) else (some false))) else (some false))) else (some false)))))
theorem marchlandlaw04_told.mono : ∀ k, LeO (marchlandlaw04_told.f k ) (marchlandlaw04_told.f (k + 1) ) := by
 intro  k
 unfold marchlandlaw04_told.f
 repeat' first
   | (with_reducible exact bag_Apply.mono _ _ _)
   | (with_reducible exact bag_Least.mono _ _ _)
   | (with_reducible exact bag_Right.mono _ _)
   | (with_reducible exact LeO.refl _)
   | (with_reducible exact LeO.none _)
   | (with_reducible refine LeO.ite ?_ ?_)
   | (with_reducible refine LeO.bind ?_ (fun _ => ?_))
   | exact bag_Apply.mono _ _ _
   | exact bag_Least.mono _ _ _
   | exact bag_Right.mono _ _
   | exact LeO.none _
   | refine LeO.ite ?_ ?_
   | refine LeO.bind ?_ (fun _ => ?_)
set_option maxHeartbeats 8000000 in
set_option maxRecDepth 100000 in
theorem marchlandlaw04_told.calls (k : Nat)  (r : Bool) (w : World) (h : marchlandlaw04_told.f k  = some r) :
  Calls Try.prog 29 #[] w fun e w' => e = .returned (.bool r) ∧ Below w.heap.size w w' := by
 have hu50 := Try.underlying50
 have HB := Aside0.mk (Below.refl w.heap.size w)
 have H : ((some (([(⟨1, 5, 2⟩ : S50), (⟨1, 9, 1⟩ : S50)] : List (S50)) : List (S50))).bind fun y397 => ((bag_Apply.f k y397 (([(⟨1, 5, (-2)⟩ : S50)] : List (S50)))).bind fun bt403 => ((bag_Apply.f k bt403.1 (([(⟨1, 5, (-1)⟩ : S50)] : List (S50)))).bind fun bt410 => ((bag_Least.f k y397 1).bind fun t414 => (if t414 = 5 then ((bag_Least.f k bt403.1 1).bind fun t415 => (if t415 = 9 then ((bag_Least.f k bt403.1 0).bind fun t416 => (if t416 = 18446744073709551615 then (if bt403.2 = 0 then (if bt410.2 = 11 then ((bag_Right.f k y397).bind fun t417 => (if t417 = true then ((bag_Sum.f bt403.1).bind fun t418 => (some (t418 == 1))) else (some false))) else (some false)) else (some false)) else (some false))) else (some false))) else (some false)))))) = some r := h
 clear h
 obtain ⟨y397, hy397⟩ : ∃ y_ : List (S50), y_ = (([(⟨1, 5, 2⟩ : S50), (⟨1, 9, 1⟩ : S50)] : List (S50))) := ⟨_, rfl⟩
 replace H : ((bag_Apply.f k y397 (([(⟨1, 5, (-2)⟩ : S50)] : List (S50)))).bind fun bt403 => ((bag_Apply.f k bt403.1 (([(⟨1, 5, (-1)⟩ : S50)] : List (S50)))).bind fun bt410 => ((bag_Least.f k y397 1).bind fun t414 => (if t414 = 5 then ((bag_Least.f k bt403.1 1).bind fun t415 => (if t415 = 9 then ((bag_Least.f k bt403.1 0).bind fun t416 => (if t416 = 18446744073709551615 then (if bt403.2 = 0 then (if bt410.2 = 11 then ((bag_Right.f k y397).bind fun t417 => (if t417 = true then ((bag_Sum.f bt403.1).bind fun t418 => (some (t418 == 1))) else (some false))) else (some false)) else (some false)) else (some false))) else (some false))) else (some false))))) = some r := by first | (rw [hy397]; with_reducible exact H) | (have H2_ := (Option.bind_some _ _).symm.trans H; rw [hy397]; with_reducible exact H2_) | (have H2_ := (Option.bind_some _ _).symm.trans H; with_reducible exact H2_) | with_reducible exact H | (rw [hy397]; exact H) | exact H
 have Ny397 := Aside0.mk hy397
 clear hy397
 obtain ⟨y400, hy400⟩ : ∃ y_ : List (S50), y_ = (([(⟨1, 5, (-2)⟩ : S50)] : List (S50))) := ⟨_, rfl⟩
 replace H : ((bag_Apply.f k y397 y400).bind fun bt403 => ((bag_Apply.f k bt403.1 (([(⟨1, 5, (-1)⟩ : S50)] : List (S50)))).bind fun bt410 => ((bag_Least.f k y397 1).bind fun t414 => (if t414 = 5 then ((bag_Least.f k bt403.1 1).bind fun t415 => (if t415 = 9 then ((bag_Least.f k bt403.1 0).bind fun t416 => (if t416 = 18446744073709551615 then (if bt403.2 = 0 then (if bt410.2 = 11 then ((bag_Right.f k y397).bind fun t417 => (if t417 = true then ((bag_Sum.f bt403.1).bind fun t418 => (some (t418 == 1))) else (some false))) else (some false)) else (some false)) else (some false))) else (some false))) else (some false))))) = some r := by first | (rw [hy400]; with_reducible exact H) | (have H2_ := (Option.bind_some _ _).symm.trans H; rw [hy400]; with_reducible exact H2_) | (have H2_ := (Option.bind_some _ _).symm.trans H; with_reducible exact H2_) | with_reducible exact H | (rw [hy400]; exact H) | exact H
 have Ny400 := Aside0.mk hy400
 clear hy400
 replace H := Option.bind_eq_some_iff.mp H
 obtain ⟨⟨t403, t404⟩, A10, H⟩ := H
 replace H : ((bag_Apply.f k t403 (([(⟨1, 5, (-1)⟩ : S50)] : List (S50)))).bind fun bt410 => ((bag_Least.f k y397 1).bind fun t414 => (if t414 = 5 then ((bag_Least.f k t403 1).bind fun t415 => (if t415 = 9 then ((bag_Least.f k t403 0).bind fun t416 => (if t416 = 18446744073709551615 then (if t404 = 0 then (if bt410.2 = 11 then ((bag_Right.f k y397).bind fun t417 => (if t417 = true then ((bag_Sum.f t403).bind fun t418 => (some (t418 == 1))) else (some false))) else (some false)) else (some false)) else (some false))) else (some false))) else (some false)))) = some r := H
 have A1 := Aside0.mk A10
 clear A10
 obtain ⟨y407, hy407⟩ : ∃ y_ : List (S50), y_ = (([(⟨1, 5, (-1)⟩ : S50)] : List (S50))) := ⟨_, rfl⟩
 replace H : ((bag_Apply.f k t403 y407).bind fun bt410 => ((bag_Least.f k y397 1).bind fun t414 => (if t414 = 5 then ((bag_Least.f k t403 1).bind fun t415 => (if t415 = 9 then ((bag_Least.f k t403 0).bind fun t416 => (if t416 = 18446744073709551615 then (if t404 = 0 then (if bt410.2 = 11 then ((bag_Right.f k y397).bind fun t417 => (if t417 = true then ((bag_Sum.f t403).bind fun t418 => (some (t418 == 1))) else (some false))) else (some false)) else (some false)) else (some false))) else (some false))) else (some false)))) = some r := by first | (rw [hy407]; with_reducible exact H) | (have H2_ := (Option.bind_some _ _).symm.trans H; rw [hy407]; with_reducible exact H2_) | (have H2_ := (Option.bind_some _ _).symm.trans H; with_reducible exact H2_) | with_reducible exact H | (rw [hy407]; exact H) | exact H
 have Ny407 := Aside0.mk hy407
 clear hy407
 replace H := Option.bind_eq_some_iff.mp H
 obtain ⟨⟨t410, t411⟩, A20, H⟩ := H
 replace H : ((bag_Least.f k y397 1).bind fun t414 => (if t414 = 5 then ((bag_Least.f k t403 1).bind fun t415 => (if t415 = 9 then ((bag_Least.f k t403 0).bind fun t416 => (if t416 = 18446744073709551615 then (if t404 = 0 then (if t411 = 11 then ((bag_Right.f k y397).bind fun t417 => (if t417 = true then ((bag_Sum.f t403).bind fun t418 => (some (t418 == 1))) else (some false))) else (some false)) else (some false)) else (some false))) else (some false))) else (some false))) = some r := H
 have A2 := Aside0.mk A20
 clear A20
 replace H := Option.bind_eq_some_iff.mp H
 obtain ⟨t414, A30, H⟩ := H
 replace H : (if t414 = 5 then ((bag_Least.f k t403 1).bind fun t415 => (if t415 = 9 then ((bag_Least.f k t403 0).bind fun t416 => (if t416 = 18446744073709551615 then (if t404 = 0 then (if t411 = 11 then ((bag_Right.f k y397).bind fun t417 => (if t417 = true then ((bag_Sum.f t403).bind fun t418 => (some (t418 == 1))) else (some false))) else (some false)) else (some false)) else (some false))) else (some false))) else (some false)) = some r := H
 have A3 := Aside0.mk A30
 clear A30
 by_cases c4 : t414 = 5
 ·rw [if_pos c4] at H
  have c4b0 : (t414 == 5) = true := beq_iff_eq.mpr c4
  have c4b1 : (t414 != 5) = false := bne_eq_false_iff_eq.mpr c4
  clear c4
  replace H := Option.bind_eq_some_iff.mp H
  obtain ⟨t415, A50, H⟩ := H
  replace H : (if t415 = 9 then ((bag_Least.f k t403 0).bind fun t416 => (if t416 = 18446744073709551615 then (if t404 = 0 then (if t411 = 11 then ((bag_Right.f k y397).bind fun t417 => (if t417 = true then ((bag_Sum.f t403).bind fun t418 => (some (t418 == 1))) else (some false))) else (some false)) else (some false)) else (some false))) else (some false)) = some r := H
  have A5 := Aside0.mk A50
  clear A50
  by_cases c6 : t415 = 9
  ·rw [if_pos c6] at H
   have c6b0 : (t415 == 9) = true := beq_iff_eq.mpr c6
   have c6b1 : (t415 != 9) = false := bne_eq_false_iff_eq.mpr c6
   clear c6
   replace H := Option.bind_eq_some_iff.mp H
   obtain ⟨t416, A70, H⟩ := H
   replace H : (if t416 = 18446744073709551615 then (if t404 = 0 then (if t411 = 11 then ((bag_Right.f k y397).bind fun t417 => (if t417 = true then ((bag_Sum.f t403).bind fun t418 => (some (t418 == 1))) else (some false))) else (some false)) else (some false)) else (some false)) = some r := H
   have A7 := Aside0.mk A70
   clear A70
   by_cases c8 : t416 = 18446744073709551615
   ·rw [if_pos c8] at H
    have c8b0 : (t416 == 18446744073709551615) = true := beq_iff_eq.mpr c8
    have c8b1 : (t416 != 18446744073709551615) = false := bne_eq_false_iff_eq.mpr c8
    clear c8
    by_cases c9 : t404 = 0
    ·rw [if_pos c9] at H
     have c9b0 : (t404 == 0) = true := beq_iff_eq.mpr c9
     have c9b1 : (t404 != 0) = false := bne_eq_false_iff_eq.mpr c9
     clear c9
     by_cases c10 : t411 = 11
     ·rw [if_pos c10] at H
      have c10b0 : (t411 == 11) = true := beq_iff_eq.mpr c10
      have c10b1 : (t411 != 11) = false := bne_eq_false_iff_eq.mpr c10
      clear c10
      replace H := Option.bind_eq_some_iff.mp H
      obtain ⟨t417, A110, H⟩ := H
      replace H : (if t417 = true then ((bag_Sum.f t403).bind fun t418 => (some (t418 == 1))) else (some false)) = some r := H
      have A11 := Aside0.mk A110
      clear A110
      by_cases c12 : t417 = true
      ·subst c12
       have H1 : ((bag_Sum.f t403).bind fun t418 => (some (t418 == 1))) = some r := by rw [if_pos rfl] at H; exact H
       clear H
       have H := H1
       clear H1
       replace H := Option.bind_eq_some_iff.mp H
       obtain ⟨t418, A130, H⟩ := H
       replace H : (some (t418 == 1)) = some r := H
       have A13 := Aside0.mk A130
       clear A130
       obtain rfl := Option.some.inj H
       go_enter Try.func29, Try.ntmps29
       go_wp2_with (first | ((with_reducible refine gate_dst (N := 8) rfl ?_); refine Kd.R_lit k50 _ 50 ?hg (N := 8) ?hd (xs := ([(⟨1, 5, 2⟩ : S50), (⟨1, 9, 1⟩ : S50)] : List (S50))) (inner := [.int .i64 1, .int .u64 5, .int .i64 2, .int .i64 1, .int .u64 9, .int .i64 1]) (ok := fun _ => True) (okp := fun _ => True) ?hr ?hp (fun _ hk => hk) trivial (Below.refl _ _) (Nat.le_refl _) (by simp) ?_; (case hd => rfl); (case hg => rfl); (case hr => first | (go_simp; done) | (go_simp; rfl)); (case hp => exact (Reps.c3 (show Kd.M k50 _ _ _ (⟨1, 5, 2⟩ : S50) [.int .i64 1, .int .u64 5, .int .i64 2] from (k50_mkM _ _ _ (⟨1, 5, 2⟩ : S50) )) (Reps.c3 (show Kd.M k50 _ _ _ (⟨1, 9, 1⟩ : S50) [.int .i64 1, .int .u64 9, .int .i64 1] from (k50_mkM _ _ _ (⟨1, 9, 1⟩ : S50) )) (Reps.none _ _)))); intro v398 w14 ho15 hb hg_ hnew_; clear hg_ hnew_; (first | rw [← Ny397.out] at ho15 | (simp only [Int.reduceToNat] at ho15; rw [← Ny397.out] at ho15)); have n0_ := Aside0.mk (Kd.R_lower ho15 (below_size (bn HB))); have HO399 := n0_; replace HB := bb HB hb; clear n0_; clear hb ho15) | ((with_reducible refine gate_dst (N := 12) rfl ?_); refine Kd.R_lit k50 _ 50 ?hg (N := 12) ?hd (xs := ([(⟨1, 5, (-2)⟩ : S50)] : List (S50))) (inner := [.int .i64 1, .int .u64 5, .int .i64 (-2)]) (ok := fun _ => True) (okp := fun _ => True) ?hr ?hp (fun _ hk => hk) trivial (Below.refl _ _) (Nat.le_refl _) (by simp) ?_; (case hd => rfl); (case hg => rfl); (case hr => first | (go_simp; done) | (go_simp; rfl)); (case hp => exact (Reps.c3 (show Kd.M k50 _ _ _ (⟨1, 5, (-2)⟩ : S50) [.int .i64 1, .int .u64 5, .int .i64 (-2)] from (k50_mkM _ _ _ (⟨1, 5, (-2)⟩ : S50) )) (Reps.none _ _))); intro v401 w16 ho17 hb hg_ hnew_; clear hg_ hnew_; (first | rw [← Ny400.out] at ho17 | (simp only [Int.reduceToNat] at ho17; rw [← Ny400.out] at ho17)); have n1_ := Aside0.mk (Kd.R_lower (Kd.R_new' ho17 (Kd.R_lt (rn HO399))) (below_size (bn HB))); replace HO399 := rl HO399 (Kd.R_base ho17) hb; have HO402 := n1_; replace HB := bb HB hb; clear n1_; clear hb ho17; obtain ⟨Ao18, co18, eo18⟩ := Kd.R_slice HO399.out; subst eo18; obtain ⟨Ao19, co19, eo19⟩ := Kd.R_slice HO402.out; subst eo19) | ((with_reducible refine gate_callee (f := 27) rfl ?_); refine gl (some 13) Try.func27 #[.slice Ao18 y397.length co18, .slice Ao19 y400.length co19] ?_; (with_reducible refine (bag_Apply.calls k _ _ y397 _ _ y400 t403 t404 _ ?side1 ?side2 ?side3 ?side4 A1.out).mono ?_); (case side1 => exact rc HO399); (case side2 => exact rs HO399); (case side3 => exact rc HO402); (case side4 => exact rs HO402); rintro e w20 ⟨v405, rfl, ho0, hb⟩; refine ⟨_, rfl, ?_⟩; have n2_ := Aside0.mk (Kd.R_lower (Kd.R_new' (Kd.R_new' ho0 (Kd.R_lt (rn HO399))) (Kd.R_lt (rn HO402))) (below_size (bn HB))); replace HO399 := rl HO399 (Kd.R_base ho0) hb; replace HO402 := rl HO402 (Kd.R_base ho0) hb; have HO406 := n2_; replace HB := bb HB hb; clear n2_; (try clear hb); (try clear ho0)) | ((with_reducible refine gate_dst (N := 19) rfl ?_); refine Kd.R_lit k50 _ 50 ?hg (N := 19) ?hd (xs := ([(⟨1, 5, (-1)⟩ : S50)] : List (S50))) (inner := [.int .i64 1, .int .u64 5, .int .i64 (-1)]) (ok := fun _ => True) (okp := fun _ => True) ?hr ?hp (fun _ hk => hk) trivial (Below.refl _ _) (Nat.le_refl _) (by simp) ?_; (case hd => rfl); (case hg => rfl); (case hr => first | (go_simp; done) | (go_simp; rfl)); (case hp => exact (Reps.c3 (show Kd.M k50 _ _ _ (⟨1, 5, (-1)⟩ : S50) [.int .i64 1, .int .u64 5, .int .i64 (-1)] from (k50_mkM _ _ _ (⟨1, 5, (-1)⟩ : S50) )) (Reps.none _ _))); intro v408 w21 ho22 hb hg_ hnew_; clear hg_ hnew_; (first | rw [← Ny407.out] at ho22 | (simp only [Int.reduceToNat] at ho22; rw [← Ny407.out] at ho22)); have n3_ := Aside0.mk (Kd.R_lower (Kd.R_new' (Kd.R_new' (Kd.R_new' ho22 (Kd.R_lt (rn HO399))) (Kd.R_lt (rn HO402))) (Kd.R_lt (rn HO406))) (below_size (bn HB))); replace HO399 := rl HO399 (Kd.R_base ho22) hb; replace HO402 := rl HO402 (Kd.R_base ho22) hb; replace HO406 := rl HO406 (Kd.R_base ho22) hb; have HO409 := n3_; replace HB := bb HB hb; clear n3_; clear hb ho22; obtain ⟨Ao23, co23, eo23⟩ := Kd.R_slice HO406.out; subst eo23; obtain ⟨Ao24, co24, eo24⟩ := Kd.R_slice HO409.out; subst eo24) | ((with_reducible refine gate_callee (f := 27) rfl ?_); refine gl (some 20) Try.func27 #[.slice Ao23 t403.length co23, .slice Ao24 y407.length co24] ?_; (with_reducible refine (bag_Apply.calls k _ _ t403 _ _ y407 t410 t411 _ ?side1 ?side2 ?side3 ?side4 A2.out).mono ?_); (case side1 => exact rc HO406); (case side2 => exact rs HO406); (case side3 => exact rc HO409); (case side4 => exact rs HO409); rintro e w25 ⟨v412, rfl, ho0, hb⟩; refine ⟨_, rfl, ?_⟩; have n4_ := Aside0.mk (Kd.R_lower (Kd.R_new' (Kd.R_new' (Kd.R_new' (Kd.R_new' ho0 (Kd.R_lt (rn HO399))) (Kd.R_lt (rn HO402))) (Kd.R_lt (rn HO406))) (Kd.R_lt (rn HO409))) (below_size (bn HB))); replace HO399 := rl HO399 (Kd.R_base ho0) hb; replace HO402 := rl HO402 (Kd.R_base ho0) hb; replace HO406 := rl HO406 (Kd.R_base ho0) hb; replace HO409 := rl HO409 (Kd.R_base ho0) hb; have HO413 := n4_; replace HB := bb HB hb; clear n4_; (try clear hb); (try clear ho0)) | ((with_reducible refine gate_callee (f := 30) rfl ?_); refine gl (some 24) Try.func30 #[.slice Ao18 y397.length co18, .int .i64 1] ?_; (with_reducible refine (bag_Least.calls k _ _ y397 1 t414 _ ?side1 ?side2 A3.out).mono ?_); (case side1 => exact rc HO399); (case side2 => exact rs HO399); rintro e w26 ⟨rfl, hb⟩; refine ⟨_, rfl, ?_⟩; replace HO399 := rb HO399 hb; replace HO402 := rb HO402 hb; replace HO406 := rb HO406 hb; replace HO409 := rb HO409 hb; replace HO413 := rb HO413 hb; replace HB := bb HB hb; (try clear hb)) | (go_at_call 30; (with_reducible refine (bag_Least.calls k _ _ t403 1 t415 _ ?side1 ?side2 A5.out).mono ?_); (case side1 => exact rc HO406); (case side2 => exact rs HO406); rintro e w27 ⟨rfl, hb⟩; replace HO399 := rb HO399 hb; replace HO402 := rb HO402 hb; replace HO406 := rb HO406 hb; replace HO409 := rb HO409 hb; replace HO413 := rb HO413 hb; replace HB := bb HB hb; (try clear hb)) | (go_at_call 30; (with_reducible refine (bag_Least.calls k _ _ t403 0 t416 _ ?side1 ?side2 A7.out).mono ?_); (case side1 => exact rc HO406); (case side2 => exact rs HO406); rintro e w28 ⟨rfl, hb⟩; replace HO399 := rb HO399 hb; replace HO402 := rb HO402 hb; replace HO406 := rb HO406 hb; replace HO409 := rb HO409 hb; replace HO413 := rb HO413 hb; replace HB := bb HB hb; (try clear hb)) | (go_at_call 33; (with_reducible refine (bag_Right.calls k _ _ y397 true _ ?side1 ?side2 A11.out).mono ?_); (case side1 => exact rc HO399); (case side2 => exact rs HO399); rintro e w29 ⟨rfl, hb⟩; replace HO399 := rb HO399 hb; replace HO402 := rb HO402 hb; replace HO406 := rb HO406 hb; replace HO409 := rb HO409 hb; replace HO413 := rb HO413 hb; replace HB := bb HB hb; (try clear hb)) | (go_at_call 32; (with_reducible refine (bag_Sum.calls _ _ t403 t418 _ ?side1 ?side2 A13.out).mono ?_); (case side1 => exact rc HO406); (case side2 => exact rs HO406); rintro e w' ⟨rfl, ⟨nd, rfl⟩⟩))
       go_ret
       exact ⟨by first | rfl | (simp [errW_none, errW_some] <;> rfl) | (simp [*, errW_none, errW_some] <;> rfl), by repeat (first | (with_reducible first | exact HB.out | apply below_alloc | apply pw_below_drewN | apply below_drew1) | exact HB.out)⟩
      ·replace c12 := Bool.eq_false_iff.mpr c12
       subst c12
       have H1 : (some false) = some r := by rw [if_neg (show ¬ (false = true) by decide)] at H; exact H
       clear H
       have H := H1
       clear H1
       obtain rfl := Option.some.inj H
       go_enter Try.func29, Try.ntmps29
       go_wp2_with (first | ((with_reducible refine gate_dst (N := 8) rfl ?_); refine Kd.R_lit k50 _ 50 ?hg (N := 8) ?hd (xs := ([(⟨1, 5, 2⟩ : S50), (⟨1, 9, 1⟩ : S50)] : List (S50))) (inner := [.int .i64 1, .int .u64 5, .int .i64 2, .int .i64 1, .int .u64 9, .int .i64 1]) (ok := fun _ => True) (okp := fun _ => True) ?hr ?hp (fun _ hk => hk) trivial (Below.refl _ _) (Nat.le_refl _) (by simp) ?_; (case hd => rfl); (case hg => rfl); (case hr => first | (go_simp; done) | (go_simp; rfl)); (case hp => exact (Reps.c3 (show Kd.M k50 _ _ _ (⟨1, 5, 2⟩ : S50) [.int .i64 1, .int .u64 5, .int .i64 2] from (k50_mkM _ _ _ (⟨1, 5, 2⟩ : S50) )) (Reps.c3 (show Kd.M k50 _ _ _ (⟨1, 9, 1⟩ : S50) [.int .i64 1, .int .u64 9, .int .i64 1] from (k50_mkM _ _ _ (⟨1, 9, 1⟩ : S50) )) (Reps.none _ _)))); intro v398 w30 ho31 hb hg_ hnew_; clear hg_ hnew_; (first | rw [← Ny397.out] at ho31 | (simp only [Int.reduceToNat] at ho31; rw [← Ny397.out] at ho31)); have n0_ := Aside0.mk (Kd.R_lower ho31 (below_size (bn HB))); have HO399 := n0_; replace HB := bb HB hb; clear n0_; clear hb ho31) | ((with_reducible refine gate_dst (N := 12) rfl ?_); refine Kd.R_lit k50 _ 50 ?hg (N := 12) ?hd (xs := ([(⟨1, 5, (-2)⟩ : S50)] : List (S50))) (inner := [.int .i64 1, .int .u64 5, .int .i64 (-2)]) (ok := fun _ => True) (okp := fun _ => True) ?hr ?hp (fun _ hk => hk) trivial (Below.refl _ _) (Nat.le_refl _) (by simp) ?_; (case hd => rfl); (case hg => rfl); (case hr => first | (go_simp; done) | (go_simp; rfl)); (case hp => exact (Reps.c3 (show Kd.M k50 _ _ _ (⟨1, 5, (-2)⟩ : S50) [.int .i64 1, .int .u64 5, .int .i64 (-2)] from (k50_mkM _ _ _ (⟨1, 5, (-2)⟩ : S50) )) (Reps.none _ _))); intro v401 w32 ho33 hb hg_ hnew_; clear hg_ hnew_; (first | rw [← Ny400.out] at ho33 | (simp only [Int.reduceToNat] at ho33; rw [← Ny400.out] at ho33)); have n1_ := Aside0.mk (Kd.R_lower (Kd.R_new' ho33 (Kd.R_lt (rn HO399))) (below_size (bn HB))); replace HO399 := rl HO399 (Kd.R_base ho33) hb; have HO402 := n1_; replace HB := bb HB hb; clear n1_; clear hb ho33; obtain ⟨Ao34, co34, eo34⟩ := Kd.R_slice HO399.out; subst eo34; obtain ⟨Ao35, co35, eo35⟩ := Kd.R_slice HO402.out; subst eo35) | ((with_reducible refine gate_callee (f := 27) rfl ?_); refine gl (some 13) Try.func27 #[.slice Ao34 y397.length co34, .slice Ao35 y400.length co35] ?_; (with_reducible refine (bag_Apply.calls k _ _ y397 _ _ y400 t403 t404 _ ?side1 ?side2 ?side3 ?side4 A1.out).mono ?_); (case side1 => exact rc HO399); (case side2 => exact rs HO399); (case side3 => exact rc HO402); (case side4 => exact rs HO402); rintro e w36 ⟨v405, rfl, ho0, hb⟩; refine ⟨_, rfl, ?_⟩; have n2_ := Aside0.mk (Kd.R_lower (Kd.R_new' (Kd.R_new' ho0 (Kd.R_lt (rn HO399))) (Kd.R_lt (rn HO402))) (below_size (bn HB))); replace HO399 := rl HO399 (Kd.R_base ho0) hb; replace HO402 := rl HO402 (Kd.R_base ho0) hb; have HO406 := n2_; replace HB := bb HB hb; clear n2_; (try clear hb); (try clear ho0)) | ((with_reducible refine gate_dst (N := 19) rfl ?_); refine Kd.R_lit k50 _ 50 ?hg (N := 19) ?hd (xs := ([(⟨1, 5, (-1)⟩ : S50)] : List (S50))) (inner := [.int .i64 1, .int .u64 5, .int .i64 (-1)]) (ok := fun _ => True) (okp := fun _ => True) ?hr ?hp (fun _ hk => hk) trivial (Below.refl _ _) (Nat.le_refl _) (by simp) ?_; (case hd => rfl); (case hg => rfl); (case hr => first | (go_simp; done) | (go_simp; rfl)); (case hp => exact (Reps.c3 (show Kd.M k50 _ _ _ (⟨1, 5, (-1)⟩ : S50) [.int .i64 1, .int .u64 5, .int .i64 (-1)] from (k50_mkM _ _ _ (⟨1, 5, (-1)⟩ : S50) )) (Reps.none _ _))); intro v408 w37 ho38 hb hg_ hnew_; clear hg_ hnew_; (first | rw [← Ny407.out] at ho38 | (simp only [Int.reduceToNat] at ho38; rw [← Ny407.out] at ho38)); have n3_ := Aside0.mk (Kd.R_lower (Kd.R_new' (Kd.R_new' (Kd.R_new' ho38 (Kd.R_lt (rn HO399))) (Kd.R_lt (rn HO402))) (Kd.R_lt (rn HO406))) (below_size (bn HB))); replace HO399 := rl HO399 (Kd.R_base ho38) hb; replace HO402 := rl HO402 (Kd.R_base ho38) hb; replace HO406 := rl HO406 (Kd.R_base ho38) hb; have HO409 := n3_; replace HB := bb HB hb; clear n3_; clear hb ho38; obtain ⟨Ao39, co39, eo39⟩ := Kd.R_slice HO406.out; subst eo39; obtain ⟨Ao40, co40, eo40⟩ := Kd.R_slice HO409.out; subst eo40) | ((with_reducible refine gate_callee (f := 27) rfl ?_); refine gl (some 20) Try.func27 #[.slice Ao39 t403.length co39, .slice Ao40 y407.length co40] ?_; (with_reducible refine (bag_Apply.calls k _ _ t403 _ _ y407 t410 t411 _ ?side1 ?side2 ?side3 ?side4 A2.out).mono ?_); (case side1 => exact rc HO406); (case side2 => exact rs HO406); (case side3 => exact rc HO409); (case side4 => exact rs HO409); rintro e w41 ⟨v412, rfl, ho0, hb⟩; refine ⟨_, rfl, ?_⟩; have n4_ := Aside0.mk (Kd.R_lower (Kd.R_new' (Kd.R_new' (Kd.R_new' (Kd.R_new' ho0 (Kd.R_lt (rn HO399))) (Kd.R_lt (rn HO402))) (Kd.R_lt (rn HO406))) (Kd.R_lt (rn HO409))) (below_size (bn HB))); replace HO399 := rl HO399 (Kd.R_base ho0) hb; replace HO402 := rl HO402 (Kd.R_base ho0) hb; replace HO406 := rl HO406 (Kd.R_base ho0) hb; replace HO409 := rl HO409 (Kd.R_base ho0) hb; have HO413 := n4_; replace HB := bb HB hb; clear n4_; (try clear hb); (try clear ho0)) | ((with_reducible refine gate_callee (f := 30) rfl ?_); refine gl (some 24) Try.func30 #[.slice Ao34 y397.length co34, .int .i64 1] ?_; (with_reducible refine (bag_Least.calls k _ _ y397 1 t414 _ ?side1 ?side2 A3.out).mono ?_); (case side1 => exact rc HO399); (case side2 => exact rs HO399); rintro e w42 ⟨rfl, hb⟩; refine ⟨_, rfl, ?_⟩; replace HO399 := rb HO399 hb; replace HO402 := rb HO402 hb; replace HO406 := rb HO406 hb; replace HO409 := rb HO409 hb; replace HO413 := rb HO413 hb; replace HB := bb HB hb; (try clear hb)) | (go_at_call 30; (with_reducible refine (bag_Least.calls k _ _ t403 1 t415 _ ?side1 ?side2 A5.out).mono ?_); (case side1 => exact rc HO406); (case side2 => exact rs HO406); rintro e w43 ⟨rfl, hb⟩; replace HO399 := rb HO399 hb; replace HO402 := rb HO402 hb; replace HO406 := rb HO406 hb; replace HO409 := rb HO409 hb; replace HO413 := rb HO413 hb; replace HB := bb HB hb; (try clear hb)) | (go_at_call 30; (with_reducible refine (bag_Least.calls k _ _ t403 0 t416 _ ?side1 ?side2 A7.out).mono ?_); (case side1 => exact rc HO406); (case side2 => exact rs HO406); rintro e w44 ⟨rfl, hb⟩; replace HO399 := rb HO399 hb; replace HO402 := rb HO402 hb; replace HO406 := rb HO406 hb; replace HO409 := rb HO409 hb; replace HO413 := rb HO413 hb; replace HB := bb HB hb; (try clear hb)) | (go_at_call 33; (with_reducible refine (bag_Right.calls k _ _ y397 false _ ?side1 ?side2 A11.out).mono ?_); (case side1 => exact rc HO399); (case side2 => exact rs HO399); rintro e w45 ⟨rfl, hb⟩; replace HO399 := rb HO399 hb; replace HO402 := rb HO402 hb; replace HO406 := rb HO406 hb; replace HO409 := rb HO409 hb; replace HO413 := rb HO413 hb; replace HB := bb HB hb; (try clear hb)))
       go_ret
       exact ⟨by first | rfl | (simp [errW_none, errW_some] <;> rfl) | (simp [*, errW_none, errW_some] <;> rfl), by repeat (first | (with_reducible first | exact HB.out | apply below_alloc | apply pw_below_drewN | apply below_drew1) | exact HB.out)⟩
     ·rw [if_neg c10] at H
      have c10b0 : (t411 == 11) = false := beq_eq_false_iff_ne.mpr c10
      have c10b1 : (t411 != 11) = true := bne_iff_ne.mpr c10
      obtain rfl := Option.some.inj H
      go_enter Try.func29, Try.ntmps29
      go_wp2_with (first | ((with_reducible refine gate_dst (N := 8) rfl ?_); refine Kd.R_lit k50 _ 50 ?hg (N := 8) ?hd (xs := ([(⟨1, 5, 2⟩ : S50), (⟨1, 9, 1⟩ : S50)] : List (S50))) (inner := [.int .i64 1, .int .u64 5, .int .i64 2, .int .i64 1, .int .u64 9, .int .i64 1]) (ok := fun _ => True) (okp := fun _ => True) ?hr ?hp (fun _ hk => hk) trivial (Below.refl _ _) (Nat.le_refl _) (by simp) ?_; (case hd => rfl); (case hg => rfl); (case hr => first | (go_simp; done) | (go_simp; rfl)); (case hp => exact (Reps.c3 (show Kd.M k50 _ _ _ (⟨1, 5, 2⟩ : S50) [.int .i64 1, .int .u64 5, .int .i64 2] from (k50_mkM _ _ _ (⟨1, 5, 2⟩ : S50) )) (Reps.c3 (show Kd.M k50 _ _ _ (⟨1, 9, 1⟩ : S50) [.int .i64 1, .int .u64 9, .int .i64 1] from (k50_mkM _ _ _ (⟨1, 9, 1⟩ : S50) )) (Reps.none _ _)))); intro v398 w46 ho47 hb hg_ hnew_; clear hg_ hnew_; (first | rw [← Ny397.out] at ho47 | (simp only [Int.reduceToNat] at ho47; rw [← Ny397.out] at ho47)); have n0_ := Aside0.mk (Kd.R_lower ho47 (below_size (bn HB))); have HO399 := n0_; replace HB := bb HB hb; clear n0_; clear hb ho47) | ((with_reducible refine gate_dst (N := 12) rfl ?_); refine Kd.R_lit k50 _ 50 ?hg (N := 12) ?hd (xs := ([(⟨1, 5, (-2)⟩ : S50)] : List (S50))) (inner := [.int .i64 1, .int .u64 5, .int .i64 (-2)]) (ok := fun _ => True) (okp := fun _ => True) ?hr ?hp (fun _ hk => hk) trivial (Below.refl _ _) (Nat.le_refl _) (by simp) ?_; (case hd => rfl); (case hg => rfl); (case hr => first | (go_simp; done) | (go_simp; rfl)); (case hp => exact (Reps.c3 (show Kd.M k50 _ _ _ (⟨1, 5, (-2)⟩ : S50) [.int .i64 1, .int .u64 5, .int .i64 (-2)] from (k50_mkM _ _ _ (⟨1, 5, (-2)⟩ : S50) )) (Reps.none _ _))); intro v401 w48 ho49 hb hg_ hnew_; clear hg_ hnew_; (first | rw [← Ny400.out] at ho49 | (simp only [Int.reduceToNat] at ho49; rw [← Ny400.out] at ho49)); have n1_ := Aside0.mk (Kd.R_lower (Kd.R_new' ho49 (Kd.R_lt (rn HO399))) (below_size (bn HB))); replace HO399 := rl HO399 (Kd.R_base ho49) hb; have HO402 := n1_; replace HB := bb HB hb; clear n1_; clear hb ho49; obtain ⟨Ao50, co50, eo50⟩ := Kd.R_slice HO399.out; subst eo50; obtain ⟨Ao51, co51, eo51⟩ := Kd.R_slice HO402.out; subst eo51) | ((with_reducible refine gate_callee (f := 27) rfl ?_); refine gl (some 13) Try.func27 #[.slice Ao50 y397.length co50, .slice Ao51 y400.length co51] ?_; (with_reducible refine (bag_Apply.calls k _ _ y397 _ _ y400 t403 t404 _ ?side1 ?side2 ?side3 ?side4 A1.out).mono ?_); (case side1 => exact rc HO399); (case side2 => exact rs HO399); (case side3 => exact rc HO402); (case side4 => exact rs HO402); rintro e w52 ⟨v405, rfl, ho0, hb⟩; refine ⟨_, rfl, ?_⟩; have n2_ := Aside0.mk (Kd.R_lower (Kd.R_new' (Kd.R_new' ho0 (Kd.R_lt (rn HO399))) (Kd.R_lt (rn HO402))) (below_size (bn HB))); replace HO399 := rl HO399 (Kd.R_base ho0) hb; replace HO402 := rl HO402 (Kd.R_base ho0) hb; have HO406 := n2_; replace HB := bb HB hb; clear n2_; (try clear hb); (try clear ho0)) | ((with_reducible refine gate_dst (N := 19) rfl ?_); refine Kd.R_lit k50 _ 50 ?hg (N := 19) ?hd (xs := ([(⟨1, 5, (-1)⟩ : S50)] : List (S50))) (inner := [.int .i64 1, .int .u64 5, .int .i64 (-1)]) (ok := fun _ => True) (okp := fun _ => True) ?hr ?hp (fun _ hk => hk) trivial (Below.refl _ _) (Nat.le_refl _) (by simp) ?_; (case hd => rfl); (case hg => rfl); (case hr => first | (go_simp; done) | (go_simp; rfl)); (case hp => exact (Reps.c3 (show Kd.M k50 _ _ _ (⟨1, 5, (-1)⟩ : S50) [.int .i64 1, .int .u64 5, .int .i64 (-1)] from (k50_mkM _ _ _ (⟨1, 5, (-1)⟩ : S50) )) (Reps.none _ _))); intro v408 w53 ho54 hb hg_ hnew_; clear hg_ hnew_; (first | rw [← Ny407.out] at ho54 | (simp only [Int.reduceToNat] at ho54; rw [← Ny407.out] at ho54)); have n3_ := Aside0.mk (Kd.R_lower (Kd.R_new' (Kd.R_new' (Kd.R_new' ho54 (Kd.R_lt (rn HO399))) (Kd.R_lt (rn HO402))) (Kd.R_lt (rn HO406))) (below_size (bn HB))); replace HO399 := rl HO399 (Kd.R_base ho54) hb; replace HO402 := rl HO402 (Kd.R_base ho54) hb; replace HO406 := rl HO406 (Kd.R_base ho54) hb; have HO409 := n3_; replace HB := bb HB hb; clear n3_; clear hb ho54; obtain ⟨Ao55, co55, eo55⟩ := Kd.R_slice HO406.out; subst eo55; obtain ⟨Ao56, co56, eo56⟩ := Kd.R_slice HO409.out; subst eo56) | ((with_reducible refine gate_callee (f := 27) rfl ?_); refine gl (some 20) Try.func27 #[.slice Ao55 t403.length co55, .slice Ao56 y407.length co56] ?_; (with_reducible refine (bag_Apply.calls k _ _ t403 _ _ y407 t410 t411 _ ?side1 ?side2 ?side3 ?side4 A2.out).mono ?_); (case side1 => exact rc HO406); (case side2 => exact rs HO406); (case side3 => exact rc HO409); (case side4 => exact rs HO409); rintro e w57 ⟨v412, rfl, ho0, hb⟩; refine ⟨_, rfl, ?_⟩; have n4_ := Aside0.mk (Kd.R_lower (Kd.R_new' (Kd.R_new' (Kd.R_new' (Kd.R_new' ho0 (Kd.R_lt (rn HO399))) (Kd.R_lt (rn HO402))) (Kd.R_lt (rn HO406))) (Kd.R_lt (rn HO409))) (below_size (bn HB))); replace HO399 := rl HO399 (Kd.R_base ho0) hb; replace HO402 := rl HO402 (Kd.R_base ho0) hb; replace HO406 := rl HO406 (Kd.R_base ho0) hb; replace HO409 := rl HO409 (Kd.R_base ho0) hb; have HO413 := n4_; replace HB := bb HB hb; clear n4_; (try clear hb); (try clear ho0)) | ((with_reducible refine gate_callee (f := 30) rfl ?_); refine gl (some 24) Try.func30 #[.slice Ao50 y397.length co50, .int .i64 1] ?_; (with_reducible refine (bag_Least.calls k _ _ y397 1 t414 _ ?side1 ?side2 A3.out).mono ?_); (case side1 => exact rc HO399); (case side2 => exact rs HO399); rintro e w58 ⟨rfl, hb⟩; refine ⟨_, rfl, ?_⟩; replace HO399 := rb HO399 hb; replace HO402 := rb HO402 hb; replace HO406 := rb HO406 hb; replace HO409 := rb HO409 hb; replace HO413 := rb HO413 hb; replace HB := bb HB hb; (try clear hb)) | (go_at_call 30; (with_reducible refine (bag_Least.calls k _ _ t403 1 t415 _ ?side1 ?side2 A5.out).mono ?_); (case side1 => exact rc HO406); (case side2 => exact rs HO406); rintro e w59 ⟨rfl, hb⟩; replace HO399 := rb HO399 hb; replace HO402 := rb HO402 hb; replace HO406 := rb HO406 hb; replace HO409 := rb HO409 hb; replace HO413 := rb HO413 hb; replace HB := bb HB hb; (try clear hb)) | (go_at_call 30; (with_reducible refine (bag_Least.calls k _ _ t403 0 t416 _ ?side1 ?side2 A7.out).mono ?_); (case side1 => exact rc HO406); (case side2 => exact rs HO406); rintro e w60 ⟨rfl, hb⟩; replace HO399 := rb HO399 hb; replace HO402 := rb HO402 hb; replace HO406 := rb HO406 hb; replace HO409 := rb HO409 hb; replace HO413 := rb HO413 hb; replace HB := bb HB hb; (try clear hb)))
      go_ret
      exact ⟨by first | rfl | (simp [errW_none, errW_some] <;> rfl) | (simp [*, errW_none, errW_some] <;> rfl), by repeat (first | (with_reducible first | exact HB.out | apply below_alloc | apply pw_below_drewN | apply below_drew1) | exact HB.out)⟩
    ·rw [if_neg c9] at H
     have c9b0 : (t404 == 0) = false := beq_eq_false_iff_ne.mpr c9
     have c9b1 : (t404 != 0) = true := bne_iff_ne.mpr c9
     obtain rfl := Option.some.inj H
     go_enter Try.func29, Try.ntmps29
     go_wp2_with (first | ((with_reducible refine gate_dst (N := 8) rfl ?_); refine Kd.R_lit k50 _ 50 ?hg (N := 8) ?hd (xs := ([(⟨1, 5, 2⟩ : S50), (⟨1, 9, 1⟩ : S50)] : List (S50))) (inner := [.int .i64 1, .int .u64 5, .int .i64 2, .int .i64 1, .int .u64 9, .int .i64 1]) (ok := fun _ => True) (okp := fun _ => True) ?hr ?hp (fun _ hk => hk) trivial (Below.refl _ _) (Nat.le_refl _) (by simp) ?_; (case hd => rfl); (case hg => rfl); (case hr => first | (go_simp; done) | (go_simp; rfl)); (case hp => exact (Reps.c3 (show Kd.M k50 _ _ _ (⟨1, 5, 2⟩ : S50) [.int .i64 1, .int .u64 5, .int .i64 2] from (k50_mkM _ _ _ (⟨1, 5, 2⟩ : S50) )) (Reps.c3 (show Kd.M k50 _ _ _ (⟨1, 9, 1⟩ : S50) [.int .i64 1, .int .u64 9, .int .i64 1] from (k50_mkM _ _ _ (⟨1, 9, 1⟩ : S50) )) (Reps.none _ _)))); intro v398 w61 ho62 hb hg_ hnew_; clear hg_ hnew_; (first | rw [← Ny397.out] at ho62 | (simp only [Int.reduceToNat] at ho62; rw [← Ny397.out] at ho62)); have n0_ := Aside0.mk (Kd.R_lower ho62 (below_size (bn HB))); have HO399 := n0_; replace HB := bb HB hb; clear n0_; clear hb ho62) | ((with_reducible refine gate_dst (N := 12) rfl ?_); refine Kd.R_lit k50 _ 50 ?hg (N := 12) ?hd (xs := ([(⟨1, 5, (-2)⟩ : S50)] : List (S50))) (inner := [.int .i64 1, .int .u64 5, .int .i64 (-2)]) (ok := fun _ => True) (okp := fun _ => True) ?hr ?hp (fun _ hk => hk) trivial (Below.refl _ _) (Nat.le_refl _) (by simp) ?_; (case hd => rfl); (case hg => rfl); (case hr => first | (go_simp; done) | (go_simp; rfl)); (case hp => exact (Reps.c3 (show Kd.M k50 _ _ _ (⟨1, 5, (-2)⟩ : S50) [.int .i64 1, .int .u64 5, .int .i64 (-2)] from (k50_mkM _ _ _ (⟨1, 5, (-2)⟩ : S50) )) (Reps.none _ _))); intro v401 w63 ho64 hb hg_ hnew_; clear hg_ hnew_; (first | rw [← Ny400.out] at ho64 | (simp only [Int.reduceToNat] at ho64; rw [← Ny400.out] at ho64)); have n1_ := Aside0.mk (Kd.R_lower (Kd.R_new' ho64 (Kd.R_lt (rn HO399))) (below_size (bn HB))); replace HO399 := rl HO399 (Kd.R_base ho64) hb; have HO402 := n1_; replace HB := bb HB hb; clear n1_; clear hb ho64; obtain ⟨Ao65, co65, eo65⟩ := Kd.R_slice HO399.out; subst eo65; obtain ⟨Ao66, co66, eo66⟩ := Kd.R_slice HO402.out; subst eo66) | ((with_reducible refine gate_callee (f := 27) rfl ?_); refine gl (some 13) Try.func27 #[.slice Ao65 y397.length co65, .slice Ao66 y400.length co66] ?_; (with_reducible refine (bag_Apply.calls k _ _ y397 _ _ y400 t403 t404 _ ?side1 ?side2 ?side3 ?side4 A1.out).mono ?_); (case side1 => exact rc HO399); (case side2 => exact rs HO399); (case side3 => exact rc HO402); (case side4 => exact rs HO402); rintro e w67 ⟨v405, rfl, ho0, hb⟩; refine ⟨_, rfl, ?_⟩; have n2_ := Aside0.mk (Kd.R_lower (Kd.R_new' (Kd.R_new' ho0 (Kd.R_lt (rn HO399))) (Kd.R_lt (rn HO402))) (below_size (bn HB))); replace HO399 := rl HO399 (Kd.R_base ho0) hb; replace HO402 := rl HO402 (Kd.R_base ho0) hb; have HO406 := n2_; replace HB := bb HB hb; clear n2_; (try clear hb); (try clear ho0)) | ((with_reducible refine gate_dst (N := 19) rfl ?_); refine Kd.R_lit k50 _ 50 ?hg (N := 19) ?hd (xs := ([(⟨1, 5, (-1)⟩ : S50)] : List (S50))) (inner := [.int .i64 1, .int .u64 5, .int .i64 (-1)]) (ok := fun _ => True) (okp := fun _ => True) ?hr ?hp (fun _ hk => hk) trivial (Below.refl _ _) (Nat.le_refl _) (by simp) ?_; (case hd => rfl); (case hg => rfl); (case hr => first | (go_simp; done) | (go_simp; rfl)); (case hp => exact (Reps.c3 (show Kd.M k50 _ _ _ (⟨1, 5, (-1)⟩ : S50) [.int .i64 1, .int .u64 5, .int .i64 (-1)] from (k50_mkM _ _ _ (⟨1, 5, (-1)⟩ : S50) )) (Reps.none _ _))); intro v408 w68 ho69 hb hg_ hnew_; clear hg_ hnew_; (first | rw [← Ny407.out] at ho69 | (simp only [Int.reduceToNat] at ho69; rw [← Ny407.out] at ho69)); have n3_ := Aside0.mk (Kd.R_lower (Kd.R_new' (Kd.R_new' (Kd.R_new' ho69 (Kd.R_lt (rn HO399))) (Kd.R_lt (rn HO402))) (Kd.R_lt (rn HO406))) (below_size (bn HB))); replace HO399 := rl HO399 (Kd.R_base ho69) hb; replace HO402 := rl HO402 (Kd.R_base ho69) hb; replace HO406 := rl HO406 (Kd.R_base ho69) hb; have HO409 := n3_; replace HB := bb HB hb; clear n3_; clear hb ho69; obtain ⟨Ao70, co70, eo70⟩ := Kd.R_slice HO406.out; subst eo70; obtain ⟨Ao71, co71, eo71⟩ := Kd.R_slice HO409.out; subst eo71) | ((with_reducible refine gate_callee (f := 27) rfl ?_); refine gl (some 20) Try.func27 #[.slice Ao70 t403.length co70, .slice Ao71 y407.length co71] ?_; (with_reducible refine (bag_Apply.calls k _ _ t403 _ _ y407 t410 t411 _ ?side1 ?side2 ?side3 ?side4 A2.out).mono ?_); (case side1 => exact rc HO406); (case side2 => exact rs HO406); (case side3 => exact rc HO409); (case side4 => exact rs HO409); rintro e w72 ⟨v412, rfl, ho0, hb⟩; refine ⟨_, rfl, ?_⟩; have n4_ := Aside0.mk (Kd.R_lower (Kd.R_new' (Kd.R_new' (Kd.R_new' (Kd.R_new' ho0 (Kd.R_lt (rn HO399))) (Kd.R_lt (rn HO402))) (Kd.R_lt (rn HO406))) (Kd.R_lt (rn HO409))) (below_size (bn HB))); replace HO399 := rl HO399 (Kd.R_base ho0) hb; replace HO402 := rl HO402 (Kd.R_base ho0) hb; replace HO406 := rl HO406 (Kd.R_base ho0) hb; replace HO409 := rl HO409 (Kd.R_base ho0) hb; have HO413 := n4_; replace HB := bb HB hb; clear n4_; (try clear hb); (try clear ho0)) | ((with_reducible refine gate_callee (f := 30) rfl ?_); refine gl (some 24) Try.func30 #[.slice Ao65 y397.length co65, .int .i64 1] ?_; (with_reducible refine (bag_Least.calls k _ _ y397 1 t414 _ ?side1 ?side2 A3.out).mono ?_); (case side1 => exact rc HO399); (case side2 => exact rs HO399); rintro e w73 ⟨rfl, hb⟩; refine ⟨_, rfl, ?_⟩; replace HO399 := rb HO399 hb; replace HO402 := rb HO402 hb; replace HO406 := rb HO406 hb; replace HO409 := rb HO409 hb; replace HO413 := rb HO413 hb; replace HB := bb HB hb; (try clear hb)) | (go_at_call 30; (with_reducible refine (bag_Least.calls k _ _ t403 1 t415 _ ?side1 ?side2 A5.out).mono ?_); (case side1 => exact rc HO406); (case side2 => exact rs HO406); rintro e w74 ⟨rfl, hb⟩; replace HO399 := rb HO399 hb; replace HO402 := rb HO402 hb; replace HO406 := rb HO406 hb; replace HO409 := rb HO409 hb; replace HO413 := rb HO413 hb; replace HB := bb HB hb; (try clear hb)) | (go_at_call 30; (with_reducible refine (bag_Least.calls k _ _ t403 0 t416 _ ?side1 ?side2 A7.out).mono ?_); (case side1 => exact rc HO406); (case side2 => exact rs HO406); rintro e w75 ⟨rfl, hb⟩; replace HO399 := rb HO399 hb; replace HO402 := rb HO402 hb; replace HO406 := rb HO406 hb; replace HO409 := rb HO409 hb; replace HO413 := rb HO413 hb; replace HB := bb HB hb; (try clear hb)))
     go_ret
     exact ⟨by first | rfl | (simp [errW_none, errW_some] <;> rfl) | (simp [*, errW_none, errW_some] <;> rfl), by repeat (first | (with_reducible first | exact HB.out | apply below_alloc | apply pw_below_drewN | apply below_drew1) | exact HB.out)⟩
   ·rw [if_neg c8] at H
    have c8b0 : (t416 == 18446744073709551615) = false := beq_eq_false_iff_ne.mpr c8
    have c8b1 : (t416 != 18446744073709551615) = true := bne_iff_ne.mpr c8
    obtain rfl := Option.some.inj H
    go_enter Try.func29, Try.ntmps29
    go_wp2_with (first | ((with_reducible refine gate_dst (N := 8) rfl ?_); refine Kd.R_lit k50 _ 50 ?hg (N := 8) ?hd (xs := ([(⟨1, 5, 2⟩ : S50), (⟨1, 9, 1⟩ : S50)] : List (S50))) (inner := [.int .i64 1, .int .u64 5, .int .i64 2, .int .i64 1, .int .u64 9, .int .i64 1]) (ok := fun _ => True) (okp := fun _ => True) ?hr ?hp (fun _ hk => hk) trivial (Below.refl _ _) (Nat.le_refl _) (by simp) ?_; (case hd => rfl); (case hg => rfl); (case hr => first | (go_simp; done) | (go_simp; rfl)); (case hp => exact (Reps.c3 (show Kd.M k50 _ _ _ (⟨1, 5, 2⟩ : S50) [.int .i64 1, .int .u64 5, .int .i64 2] from (k50_mkM _ _ _ (⟨1, 5, 2⟩ : S50) )) (Reps.c3 (show Kd.M k50 _ _ _ (⟨1, 9, 1⟩ : S50) [.int .i64 1, .int .u64 9, .int .i64 1] from (k50_mkM _ _ _ (⟨1, 9, 1⟩ : S50) )) (Reps.none _ _)))); intro v398 w76 ho77 hb hg_ hnew_; clear hg_ hnew_; (first | rw [← Ny397.out] at ho77 | (simp only [Int.reduceToNat] at ho77; rw [← Ny397.out] at ho77)); have n0_ := Aside0.mk (Kd.R_lower ho77 (below_size (bn HB))); have HO399 := n0_; replace HB := bb HB hb; clear n0_; clear hb ho77) | ((with_reducible refine gate_dst (N := 12) rfl ?_); refine Kd.R_lit k50 _ 50 ?hg (N := 12) ?hd (xs := ([(⟨1, 5, (-2)⟩ : S50)] : List (S50))) (inner := [.int .i64 1, .int .u64 5, .int .i64 (-2)]) (ok := fun _ => True) (okp := fun _ => True) ?hr ?hp (fun _ hk => hk) trivial (Below.refl _ _) (Nat.le_refl _) (by simp) ?_; (case hd => rfl); (case hg => rfl); (case hr => first | (go_simp; done) | (go_simp; rfl)); (case hp => exact (Reps.c3 (show Kd.M k50 _ _ _ (⟨1, 5, (-2)⟩ : S50) [.int .i64 1, .int .u64 5, .int .i64 (-2)] from (k50_mkM _ _ _ (⟨1, 5, (-2)⟩ : S50) )) (Reps.none _ _))); intro v401 w78 ho79 hb hg_ hnew_; clear hg_ hnew_; (first | rw [← Ny400.out] at ho79 | (simp only [Int.reduceToNat] at ho79; rw [← Ny400.out] at ho79)); have n1_ := Aside0.mk (Kd.R_lower (Kd.R_new' ho79 (Kd.R_lt (rn HO399))) (below_size (bn HB))); replace HO399 := rl HO399 (Kd.R_base ho79) hb; have HO402 := n1_; replace HB := bb HB hb; clear n1_; clear hb ho79; obtain ⟨Ao80, co80, eo80⟩ := Kd.R_slice HO399.out; subst eo80; obtain ⟨Ao81, co81, eo81⟩ := Kd.R_slice HO402.out; subst eo81) | ((with_reducible refine gate_callee (f := 27) rfl ?_); refine gl (some 13) Try.func27 #[.slice Ao80 y397.length co80, .slice Ao81 y400.length co81] ?_; (with_reducible refine (bag_Apply.calls k _ _ y397 _ _ y400 t403 t404 _ ?side1 ?side2 ?side3 ?side4 A1.out).mono ?_); (case side1 => exact rc HO399); (case side2 => exact rs HO399); (case side3 => exact rc HO402); (case side4 => exact rs HO402); rintro e w82 ⟨v405, rfl, ho0, hb⟩; refine ⟨_, rfl, ?_⟩; have n2_ := Aside0.mk (Kd.R_lower (Kd.R_new' (Kd.R_new' ho0 (Kd.R_lt (rn HO399))) (Kd.R_lt (rn HO402))) (below_size (bn HB))); replace HO399 := rl HO399 (Kd.R_base ho0) hb; replace HO402 := rl HO402 (Kd.R_base ho0) hb; have HO406 := n2_; replace HB := bb HB hb; clear n2_; (try clear hb); (try clear ho0)) | ((with_reducible refine gate_dst (N := 19) rfl ?_); refine Kd.R_lit k50 _ 50 ?hg (N := 19) ?hd (xs := ([(⟨1, 5, (-1)⟩ : S50)] : List (S50))) (inner := [.int .i64 1, .int .u64 5, .int .i64 (-1)]) (ok := fun _ => True) (okp := fun _ => True) ?hr ?hp (fun _ hk => hk) trivial (Below.refl _ _) (Nat.le_refl _) (by simp) ?_; (case hd => rfl); (case hg => rfl); (case hr => first | (go_simp; done) | (go_simp; rfl)); (case hp => exact (Reps.c3 (show Kd.M k50 _ _ _ (⟨1, 5, (-1)⟩ : S50) [.int .i64 1, .int .u64 5, .int .i64 (-1)] from (k50_mkM _ _ _ (⟨1, 5, (-1)⟩ : S50) )) (Reps.none _ _))); intro v408 w83 ho84 hb hg_ hnew_; clear hg_ hnew_; (first | rw [← Ny407.out] at ho84 | (simp only [Int.reduceToNat] at ho84; rw [← Ny407.out] at ho84)); have n3_ := Aside0.mk (Kd.R_lower (Kd.R_new' (Kd.R_new' (Kd.R_new' ho84 (Kd.R_lt (rn HO399))) (Kd.R_lt (rn HO402))) (Kd.R_lt (rn HO406))) (below_size (bn HB))); replace HO399 := rl HO399 (Kd.R_base ho84) hb; replace HO402 := rl HO402 (Kd.R_base ho84) hb; replace HO406 := rl HO406 (Kd.R_base ho84) hb; have HO409 := n3_; replace HB := bb HB hb; clear n3_; clear hb ho84; obtain ⟨Ao85, co85, eo85⟩ := Kd.R_slice HO406.out; subst eo85; obtain ⟨Ao86, co86, eo86⟩ := Kd.R_slice HO409.out; subst eo86) | ((with_reducible refine gate_callee (f := 27) rfl ?_); refine gl (some 20) Try.func27 #[.slice Ao85 t403.length co85, .slice Ao86 y407.length co86] ?_; (with_reducible refine (bag_Apply.calls k _ _ t403 _ _ y407 t410 t411 _ ?side1 ?side2 ?side3 ?side4 A2.out).mono ?_); (case side1 => exact rc HO406); (case side2 => exact rs HO406); (case side3 => exact rc HO409); (case side4 => exact rs HO409); rintro e w87 ⟨v412, rfl, ho0, hb⟩; refine ⟨_, rfl, ?_⟩; have n4_ := Aside0.mk (Kd.R_lower (Kd.R_new' (Kd.R_new' (Kd.R_new' (Kd.R_new' ho0 (Kd.R_lt (rn HO399))) (Kd.R_lt (rn HO402))) (Kd.R_lt (rn HO406))) (Kd.R_lt (rn HO409))) (below_size (bn HB))); replace HO399 := rl HO399 (Kd.R_base ho0) hb; replace HO402 := rl HO402 (Kd.R_base ho0) hb; replace HO406 := rl HO406 (Kd.R_base ho0) hb; replace HO409 := rl HO409 (Kd.R_base ho0) hb; have HO413 := n4_; replace HB := bb HB hb; clear n4_; (try clear hb); (try clear ho0)) | ((with_reducible refine gate_callee (f := 30) rfl ?_); refine gl (some 24) Try.func30 #[.slice Ao80 y397.length co80, .int .i64 1] ?_; (with_reducible refine (bag_Least.calls k _ _ y397 1 t414 _ ?side1 ?side2 A3.out).mono ?_); (case side1 => exact rc HO399); (case side2 => exact rs HO399); rintro e w88 ⟨rfl, hb⟩; refine ⟨_, rfl, ?_⟩; replace HO399 := rb HO399 hb; replace HO402 := rb HO402 hb; replace HO406 := rb HO406 hb; replace HO409 := rb HO409 hb; replace HO413 := rb HO413 hb; replace HB := bb HB hb; (try clear hb)) | (go_at_call 30; (with_reducible refine (bag_Least.calls k _ _ t403 1 t415 _ ?side1 ?side2 A5.out).mono ?_); (case side1 => exact rc HO406); (case side2 => exact rs HO406); rintro e w89 ⟨rfl, hb⟩; replace HO399 := rb HO399 hb; replace HO402 := rb HO402 hb; replace HO406 := rb HO406 hb; replace HO409 := rb HO409 hb; replace HO413 := rb HO413 hb; replace HB := bb HB hb; (try clear hb)) | (go_at_call 30; (with_reducible refine (bag_Least.calls k _ _ t403 0 t416 _ ?side1 ?side2 A7.out).mono ?_); (case side1 => exact rc HO406); (case side2 => exact rs HO406); rintro e w90 ⟨rfl, hb⟩; replace HO399 := rb HO399 hb; replace HO402 := rb HO402 hb; replace HO406 := rb HO406 hb; replace HO409 := rb HO409 hb; replace HO413 := rb HO413 hb; replace HB := bb HB hb; (try clear hb)))
    go_ret
    exact ⟨by first | rfl | (simp [errW_none, errW_some] <;> rfl) | (simp [*, errW_none, errW_some] <;> rfl), by repeat (first | (with_reducible first | exact HB.out | apply below_alloc | apply pw_below_drewN | apply below_drew1) | exact HB.out)⟩
  ·rw [if_neg c6] at H
   have c6b0 : (t415 == 9) = false := beq_eq_false_iff_ne.mpr c6
   have c6b1 : (t415 != 9) = true := bne_iff_ne.mpr c6
   obtain rfl := Option.some.inj H
   go_enter Try.func29, Try.ntmps29
   go_wp2_with (first | ((with_reducible refine gate_dst (N := 8) rfl ?_); refine Kd.R_lit k50 _ 50 ?hg (N := 8) ?hd (xs := ([(⟨1, 5, 2⟩ : S50), (⟨1, 9, 1⟩ : S50)] : List (S50))) (inner := [.int .i64 1, .int .u64 5, .int .i64 2, .int .i64 1, .int .u64 9, .int .i64 1]) (ok := fun _ => True) (okp := fun _ => True) ?hr ?hp (fun _ hk => hk) trivial (Below.refl _ _) (Nat.le_refl _) (by simp) ?_; (case hd => rfl); (case hg => rfl); (case hr => first | (go_simp; done) | (go_simp; rfl)); (case hp => exact (Reps.c3 (show Kd.M k50 _ _ _ (⟨1, 5, 2⟩ : S50) [.int .i64 1, .int .u64 5, .int .i64 2] from (k50_mkM _ _ _ (⟨1, 5, 2⟩ : S50) )) (Reps.c3 (show Kd.M k50 _ _ _ (⟨1, 9, 1⟩ : S50) [.int .i64 1, .int .u64 9, .int .i64 1] from (k50_mkM _ _ _ (⟨1, 9, 1⟩ : S50) )) (Reps.none _ _)))); intro v398 w91 ho92 hb hg_ hnew_; clear hg_ hnew_; (first | rw [← Ny397.out] at ho92 | (simp only [Int.reduceToNat] at ho92; rw [← Ny397.out] at ho92)); have n0_ := Aside0.mk (Kd.R_lower ho92 (below_size (bn HB))); have HO399 := n0_; replace HB := bb HB hb; clear n0_; clear hb ho92) | ((with_reducible refine gate_dst (N := 12) rfl ?_); refine Kd.R_lit k50 _ 50 ?hg (N := 12) ?hd (xs := ([(⟨1, 5, (-2)⟩ : S50)] : List (S50))) (inner := [.int .i64 1, .int .u64 5, .int .i64 (-2)]) (ok := fun _ => True) (okp := fun _ => True) ?hr ?hp (fun _ hk => hk) trivial (Below.refl _ _) (Nat.le_refl _) (by simp) ?_; (case hd => rfl); (case hg => rfl); (case hr => first | (go_simp; done) | (go_simp; rfl)); (case hp => exact (Reps.c3 (show Kd.M k50 _ _ _ (⟨1, 5, (-2)⟩ : S50) [.int .i64 1, .int .u64 5, .int .i64 (-2)] from (k50_mkM _ _ _ (⟨1, 5, (-2)⟩ : S50) )) (Reps.none _ _))); intro v401 w93 ho94 hb hg_ hnew_; clear hg_ hnew_; (first | rw [← Ny400.out] at ho94 | (simp only [Int.reduceToNat] at ho94; rw [← Ny400.out] at ho94)); have n1_ := Aside0.mk (Kd.R_lower (Kd.R_new' ho94 (Kd.R_lt (rn HO399))) (below_size (bn HB))); replace HO399 := rl HO399 (Kd.R_base ho94) hb; have HO402 := n1_; replace HB := bb HB hb; clear n1_; clear hb ho94; obtain ⟨Ao95, co95, eo95⟩ := Kd.R_slice HO399.out; subst eo95; obtain ⟨Ao96, co96, eo96⟩ := Kd.R_slice HO402.out; subst eo96) | ((with_reducible refine gate_callee (f := 27) rfl ?_); refine gl (some 13) Try.func27 #[.slice Ao95 y397.length co95, .slice Ao96 y400.length co96] ?_; (with_reducible refine (bag_Apply.calls k _ _ y397 _ _ y400 t403 t404 _ ?side1 ?side2 ?side3 ?side4 A1.out).mono ?_); (case side1 => exact rc HO399); (case side2 => exact rs HO399); (case side3 => exact rc HO402); (case side4 => exact rs HO402); rintro e w97 ⟨v405, rfl, ho0, hb⟩; refine ⟨_, rfl, ?_⟩; have n2_ := Aside0.mk (Kd.R_lower (Kd.R_new' (Kd.R_new' ho0 (Kd.R_lt (rn HO399))) (Kd.R_lt (rn HO402))) (below_size (bn HB))); replace HO399 := rl HO399 (Kd.R_base ho0) hb; replace HO402 := rl HO402 (Kd.R_base ho0) hb; have HO406 := n2_; replace HB := bb HB hb; clear n2_; (try clear hb); (try clear ho0)) | ((with_reducible refine gate_dst (N := 19) rfl ?_); refine Kd.R_lit k50 _ 50 ?hg (N := 19) ?hd (xs := ([(⟨1, 5, (-1)⟩ : S50)] : List (S50))) (inner := [.int .i64 1, .int .u64 5, .int .i64 (-1)]) (ok := fun _ => True) (okp := fun _ => True) ?hr ?hp (fun _ hk => hk) trivial (Below.refl _ _) (Nat.le_refl _) (by simp) ?_; (case hd => rfl); (case hg => rfl); (case hr => first | (go_simp; done) | (go_simp; rfl)); (case hp => exact (Reps.c3 (show Kd.M k50 _ _ _ (⟨1, 5, (-1)⟩ : S50) [.int .i64 1, .int .u64 5, .int .i64 (-1)] from (k50_mkM _ _ _ (⟨1, 5, (-1)⟩ : S50) )) (Reps.none _ _))); intro v408 w98 ho99 hb hg_ hnew_; clear hg_ hnew_; (first | rw [← Ny407.out] at ho99 | (simp only [Int.reduceToNat] at ho99; rw [← Ny407.out] at ho99)); have n3_ := Aside0.mk (Kd.R_lower (Kd.R_new' (Kd.R_new' (Kd.R_new' ho99 (Kd.R_lt (rn HO399))) (Kd.R_lt (rn HO402))) (Kd.R_lt (rn HO406))) (below_size (bn HB))); replace HO399 := rl HO399 (Kd.R_base ho99) hb; replace HO402 := rl HO402 (Kd.R_base ho99) hb; replace HO406 := rl HO406 (Kd.R_base ho99) hb; have HO409 := n3_; replace HB := bb HB hb; clear n3_; clear hb ho99; obtain ⟨Ao100, co100, eo100⟩ := Kd.R_slice HO406.out; subst eo100; obtain ⟨Ao101, co101, eo101⟩ := Kd.R_slice HO409.out; subst eo101) | ((with_reducible refine gate_callee (f := 27) rfl ?_); refine gl (some 20) Try.func27 #[.slice Ao100 t403.length co100, .slice Ao101 y407.length co101] ?_; (with_reducible refine (bag_Apply.calls k _ _ t403 _ _ y407 t410 t411 _ ?side1 ?side2 ?side3 ?side4 A2.out).mono ?_); (case side1 => exact rc HO406); (case side2 => exact rs HO406); (case side3 => exact rc HO409); (case side4 => exact rs HO409); rintro e w102 ⟨v412, rfl, ho0, hb⟩; refine ⟨_, rfl, ?_⟩; have n4_ := Aside0.mk (Kd.R_lower (Kd.R_new' (Kd.R_new' (Kd.R_new' (Kd.R_new' ho0 (Kd.R_lt (rn HO399))) (Kd.R_lt (rn HO402))) (Kd.R_lt (rn HO406))) (Kd.R_lt (rn HO409))) (below_size (bn HB))); replace HO399 := rl HO399 (Kd.R_base ho0) hb; replace HO402 := rl HO402 (Kd.R_base ho0) hb; replace HO406 := rl HO406 (Kd.R_base ho0) hb; replace HO409 := rl HO409 (Kd.R_base ho0) hb; have HO413 := n4_; replace HB := bb HB hb; clear n4_; (try clear hb); (try clear ho0)) | ((with_reducible refine gate_callee (f := 30) rfl ?_); refine gl (some 24) Try.func30 #[.slice Ao95 y397.length co95, .int .i64 1] ?_; (with_reducible refine (bag_Least.calls k _ _ y397 1 t414 _ ?side1 ?side2 A3.out).mono ?_); (case side1 => exact rc HO399); (case side2 => exact rs HO399); rintro e w103 ⟨rfl, hb⟩; refine ⟨_, rfl, ?_⟩; replace HO399 := rb HO399 hb; replace HO402 := rb HO402 hb; replace HO406 := rb HO406 hb; replace HO409 := rb HO409 hb; replace HO413 := rb HO413 hb; replace HB := bb HB hb; (try clear hb)) | (go_at_call 30; (with_reducible refine (bag_Least.calls k _ _ t403 1 t415 _ ?side1 ?side2 A5.out).mono ?_); (case side1 => exact rc HO406); (case side2 => exact rs HO406); rintro e w104 ⟨rfl, hb⟩; replace HO399 := rb HO399 hb; replace HO402 := rb HO402 hb; replace HO406 := rb HO406 hb; replace HO409 := rb HO409 hb; replace HO413 := rb HO413 hb; replace HB := bb HB hb; (try clear hb)))
   go_ret
   exact ⟨by first | rfl | (simp [errW_none, errW_some] <;> rfl) | (simp [*, errW_none, errW_some] <;> rfl), by repeat (first | (with_reducible first | exact HB.out | apply below_alloc | apply pw_below_drewN | apply below_drew1) | exact HB.out)⟩
 ·rw [if_neg c4] at H
  have c4b0 : (t414 == 5) = false := beq_eq_false_iff_ne.mpr c4
  have c4b1 : (t414 != 5) = true := bne_iff_ne.mpr c4
  obtain rfl := Option.some.inj H
  go_enter Try.func29, Try.ntmps29
  go_wp2_with (first | ((with_reducible refine gate_dst (N := 8) rfl ?_); refine Kd.R_lit k50 _ 50 ?hg (N := 8) ?hd (xs := ([(⟨1, 5, 2⟩ : S50), (⟨1, 9, 1⟩ : S50)] : List (S50))) (inner := [.int .i64 1, .int .u64 5, .int .i64 2, .int .i64 1, .int .u64 9, .int .i64 1]) (ok := fun _ => True) (okp := fun _ => True) ?hr ?hp (fun _ hk => hk) trivial (Below.refl _ _) (Nat.le_refl _) (by simp) ?_; (case hd => rfl); (case hg => rfl); (case hr => first | (go_simp; done) | (go_simp; rfl)); (case hp => exact (Reps.c3 (show Kd.M k50 _ _ _ (⟨1, 5, 2⟩ : S50) [.int .i64 1, .int .u64 5, .int .i64 2] from (k50_mkM _ _ _ (⟨1, 5, 2⟩ : S50) )) (Reps.c3 (show Kd.M k50 _ _ _ (⟨1, 9, 1⟩ : S50) [.int .i64 1, .int .u64 9, .int .i64 1] from (k50_mkM _ _ _ (⟨1, 9, 1⟩ : S50) )) (Reps.none _ _)))); intro v398 w105 ho106 hb hg_ hnew_; clear hg_ hnew_; (first | rw [← Ny397.out] at ho106 | (simp only [Int.reduceToNat] at ho106; rw [← Ny397.out] at ho106)); have n0_ := Aside0.mk (Kd.R_lower ho106 (below_size (bn HB))); have HO399 := n0_; replace HB := bb HB hb; clear n0_; clear hb ho106) | ((with_reducible refine gate_dst (N := 12) rfl ?_); refine Kd.R_lit k50 _ 50 ?hg (N := 12) ?hd (xs := ([(⟨1, 5, (-2)⟩ : S50)] : List (S50))) (inner := [.int .i64 1, .int .u64 5, .int .i64 (-2)]) (ok := fun _ => True) (okp := fun _ => True) ?hr ?hp (fun _ hk => hk) trivial (Below.refl _ _) (Nat.le_refl _) (by simp) ?_; (case hd => rfl); (case hg => rfl); (case hr => first | (go_simp; done) | (go_simp; rfl)); (case hp => exact (Reps.c3 (show Kd.M k50 _ _ _ (⟨1, 5, (-2)⟩ : S50) [.int .i64 1, .int .u64 5, .int .i64 (-2)] from (k50_mkM _ _ _ (⟨1, 5, (-2)⟩ : S50) )) (Reps.none _ _))); intro v401 w107 ho108 hb hg_ hnew_; clear hg_ hnew_; (first | rw [← Ny400.out] at ho108 | (simp only [Int.reduceToNat] at ho108; rw [← Ny400.out] at ho108)); have n1_ := Aside0.mk (Kd.R_lower (Kd.R_new' ho108 (Kd.R_lt (rn HO399))) (below_size (bn HB))); replace HO399 := rl HO399 (Kd.R_base ho108) hb; have HO402 := n1_; replace HB := bb HB hb; clear n1_; clear hb ho108; obtain ⟨Ao109, co109, eo109⟩ := Kd.R_slice HO399.out; subst eo109; obtain ⟨Ao110, co110, eo110⟩ := Kd.R_slice HO402.out; subst eo110) | ((with_reducible refine gate_callee (f := 27) rfl ?_); refine gl (some 13) Try.func27 #[.slice Ao109 y397.length co109, .slice Ao110 y400.length co110] ?_; (with_reducible refine (bag_Apply.calls k _ _ y397 _ _ y400 t403 t404 _ ?side1 ?side2 ?side3 ?side4 A1.out).mono ?_); (case side1 => exact rc HO399); (case side2 => exact rs HO399); (case side3 => exact rc HO402); (case side4 => exact rs HO402); rintro e w111 ⟨v405, rfl, ho0, hb⟩; refine ⟨_, rfl, ?_⟩; have n2_ := Aside0.mk (Kd.R_lower (Kd.R_new' (Kd.R_new' ho0 (Kd.R_lt (rn HO399))) (Kd.R_lt (rn HO402))) (below_size (bn HB))); replace HO399 := rl HO399 (Kd.R_base ho0) hb; replace HO402 := rl HO402 (Kd.R_base ho0) hb; have HO406 := n2_; replace HB := bb HB hb; clear n2_; (try clear hb); (try clear ho0)) | ((with_reducible refine gate_dst (N := 19) rfl ?_); refine Kd.R_lit k50 _ 50 ?hg (N := 19) ?hd (xs := ([(⟨1, 5, (-1)⟩ : S50)] : List (S50))) (inner := [.int .i64 1, .int .u64 5, .int .i64 (-1)]) (ok := fun _ => True) (okp := fun _ => True) ?hr ?hp (fun _ hk => hk) trivial (Below.refl _ _) (Nat.le_refl _) (by simp) ?_; (case hd => rfl); (case hg => rfl); (case hr => first | (go_simp; done) | (go_simp; rfl)); (case hp => exact (Reps.c3 (show Kd.M k50 _ _ _ (⟨1, 5, (-1)⟩ : S50) [.int .i64 1, .int .u64 5, .int .i64 (-1)] from (k50_mkM _ _ _ (⟨1, 5, (-1)⟩ : S50) )) (Reps.none _ _))); intro v408 w112 ho113 hb hg_ hnew_; clear hg_ hnew_; (first | rw [← Ny407.out] at ho113 | (simp only [Int.reduceToNat] at ho113; rw [← Ny407.out] at ho113)); have n3_ := Aside0.mk (Kd.R_lower (Kd.R_new' (Kd.R_new' (Kd.R_new' ho113 (Kd.R_lt (rn HO399))) (Kd.R_lt (rn HO402))) (Kd.R_lt (rn HO406))) (below_size (bn HB))); replace HO399 := rl HO399 (Kd.R_base ho113) hb; replace HO402 := rl HO402 (Kd.R_base ho113) hb; replace HO406 := rl HO406 (Kd.R_base ho113) hb; have HO409 := n3_; replace HB := bb HB hb; clear n3_; clear hb ho113; obtain ⟨Ao114, co114, eo114⟩ := Kd.R_slice HO406.out; subst eo114; obtain ⟨Ao115, co115, eo115⟩ := Kd.R_slice HO409.out; subst eo115) | ((with_reducible refine gate_callee (f := 27) rfl ?_); refine gl (some 20) Try.func27 #[.slice Ao114 t403.length co114, .slice Ao115 y407.length co115] ?_; (with_reducible refine (bag_Apply.calls k _ _ t403 _ _ y407 t410 t411 _ ?side1 ?side2 ?side3 ?side4 A2.out).mono ?_); (case side1 => exact rc HO406); (case side2 => exact rs HO406); (case side3 => exact rc HO409); (case side4 => exact rs HO409); rintro e w116 ⟨v412, rfl, ho0, hb⟩; refine ⟨_, rfl, ?_⟩; have n4_ := Aside0.mk (Kd.R_lower (Kd.R_new' (Kd.R_new' (Kd.R_new' (Kd.R_new' ho0 (Kd.R_lt (rn HO399))) (Kd.R_lt (rn HO402))) (Kd.R_lt (rn HO406))) (Kd.R_lt (rn HO409))) (below_size (bn HB))); replace HO399 := rl HO399 (Kd.R_base ho0) hb; replace HO402 := rl HO402 (Kd.R_base ho0) hb; replace HO406 := rl HO406 (Kd.R_base ho0) hb; replace HO409 := rl HO409 (Kd.R_base ho0) hb; have HO413 := n4_; replace HB := bb HB hb; clear n4_; (try clear hb); (try clear ho0)) | ((with_reducible refine gate_callee (f := 30) rfl ?_); refine gl (some 24) Try.func30 #[.slice Ao109 y397.length co109, .int .i64 1] ?_; (with_reducible refine (bag_Least.calls k _ _ y397 1 t414 _ ?side1 ?side2 A3.out).mono ?_); (case side1 => exact rc HO399); (case side2 => exact rs HO399); rintro e w117 ⟨rfl, hb⟩; refine ⟨_, rfl, ?_⟩; replace HO399 := rb HO399 hb; replace HO402 := rb HO402 hb; replace HO406 := rb HO406 hb; replace HO409 := rb HO409 hb; replace HO413 := rb HO413 hb; replace HB := bb HB hb; (try clear hb)))
  go_ret
  exact ⟨by first | rfl | (simp [errW_none, errW_some] <;> rfl) | (simp [*, errW_none, errW_some] <;> rfl), by repeat (first | (with_reducible first | exact HB.out | apply below_alloc | apply pw_below_drewN | apply below_drew1) | exact HB.out)⟩
end Go.Proofs.Ytgeldmhgbnamcaa.P
end
section
/- Plain laws of bags, first part: Concat, Merge, Apply, Least, Right; the reference's Fix of bags. -/
namespace Go.Proofs.Ytgeldmhgbnamcaa.Pure
open Go.RowKit Go.Proofs.Ytgeldmhgbnamcaa.P Go.Proofs.YtgeldmhgbnamcaaW.PrintWords Go.Proofs.YtgeldmhgbnamcaaW.PrintLast
set_option linter.unusedVariables false
set_option linter.unusedSimpArgs false
/-- Apply: refused as soon as one entry would leave a count below nought -/
def applyv (a b : List S50) : List S50 × Int := if b.any (fun x => decide (wrap64 (ofv a ⟨x.f0, x.f1, 0⟩ + x.f2) < 0)) = true then ([], 11) else sumv (a ++ b)
theorem below_ev {a : List S50} (ha : Str a) (hl : a.length ≤ 4000000000000000000) (x : S50) : Ev (fun k => bag_below k a x) (decide (wrap64 (ofv a ⟨x.f0, x.f1, 0⟩ + x.f2) < 0)) := Ev.bind (of_ev a ha hl x.f0 x.f1) (Ev.now _)
theorem all_below {a : List S50} (ha : Str a) (hl : a.length ≤ 4000000000000000000) : ∀ b : List S50, ∃ K, ∀ k, K ≤ k → ∀ x ∈ b, bag_below k a x = some (decide (wrap64 (ofv a ⟨x.f0, x.f1, 0⟩ + x.f2) < 0)) := by
 intro b
 induction b with
 | nil => exact ⟨0, fun k _ x h => by cases h⟩
 | cons y b ih =>
  obtain ⟨K, h⟩ := ih
  obtain ⟨K1, h1⟩ := below_ev ha hl y
  refine ⟨K + K1, fun k hk x hx => ?_⟩
  rcases List.mem_cons.1 hx with rfl | hx
  ·exact h1 k (by omega)
  ·exact h k (by omega) x hx
theorem apply_ev {a b : List S50} (ha : Str a) (hs : Sorts (a ++ b)) (h : Short (a.length + b.length)) : Ev (fun k => bag_Apply.f k a b) (applyv a b) := by
 unfold Short at h
 obtain ⟨K, h1⟩ := all_below ha (by omega) b
 obtain ⟨K2, h2⟩ := merge_ev hs h
 refine ⟨K + K2, fun k hk => ?_⟩
 have h1 := h1 k (by omega); have h2 := h2 k (by omega); dsimp only at h2
 show bag_Apply.f k a b = _
 have c1 : b.all (fun x => (bag_below k a x).isSome) = true := List.all_eq_true.2 (fun x hx => by rw [h1 x hx]; rfl)
 have c2 : b.any (fun x => bag_below k a x == some true) = b.any (fun x => decide (wrap64 (ofv a ⟨x.f0, x.f1, 0⟩ + x.f2) < 0)) := by
  rw [Bool.eq_iff_iff, List.any_eq_true, List.any_eq_true]
  constructor
  ·rintro ⟨x, hx, h⟩; rw [h1 x hx] at h; exact ⟨x, hx, by simpa using h⟩
  ·rintro ⟨x, hx, h⟩; exact ⟨x, hx, by rw [h1 x hx, h]; rfl⟩
 rw [bag_Apply.f, if_pos c1, c2, h2]
 unfold applyv
 split <;> rfl
/-! ### Least -/
/-! ### the reference's Fix of bags -/
def fix4 (x : S40) : S40 := ⟨x.f0, x.f1, wrap64 (1 + (wrap64 (Int.tmod (IntKind.u64.wrap x.f2) 5)))⟩
theorem fix4_val (x : S40) : 1 ≤ (fix4 x).f2 ∧ (fix4 x).f2 ≤ 5 := by
 have hp : 0 ≤ IntKind.u64.wrap x.f2 := by simp [IntKind.wrap, IntKind.bits, IntKind.signed]; omega
 have h1 := Int.tmod_lt_of_pos (IntKind.u64.wrap x.f2) (b := 5) (by omega)
 have h2 := Int.tmod_nonneg (b := 5) hp (a := IntKind.u64.wrap x.f2)
 simp only [fix4]
 generalize Int.tmod (IntKind.u64.wrap x.f2) 5 = z at *
 have : wrap64 z = z := by unfold wrap64; omega
 rw [this]
 have : wrap64 (1 + z) = 1 + z := by unfold wrap64; omega
 rw [this]; omega
theorem fix4_wf {x : S40} (h : wfC x) : wfC (fix4 x) := ⟨h.1, h.2.1, by have := fix4_val x; omega⟩
theorem fix4_l0 (X : List S40) : ∀ (r pre : List S40), X = pre ++ r → pre.length ≤ 12 → Ev (fun k => marchlandref04_Fix.l0 k X (pre.map fix4) (pre.length : Int)) ((sumk (((X.take 12).map fix4).map fix1)).map v) := by
 have fin_ : ∀ pre : List S40, pre.length ≤ 12 → Ev (fun k => (marchlandref03_Fix.f k (pre.map fix4)).bind fun b => some b) ((sumk ((pre.map fix4).map fix1)).map v) := by
  intro pre h
  have := Ev.bind (fix_ev (pre.map fix4)) (Ev.now _) (f := fun _ b => some b)
  rwa [List.take_of_length_le (by simpa using h)] at this
 intro r
 induction r with
 | nil =>
  intro pre e hp
  obtain ⟨K, h⟩ := fin_ pre hp
  refine ⟨K + 1, fun k hk => ?_⟩
  obtain ⟨k, rfl⟩ : ∃ m, k = m + 1 := ⟨k - 1, by omega⟩
  have h := h k (by omega); dsimp only at h
  have e' : X.take 12 = pre := by rw [e, List.append_nil]; exact List.take_of_length_le hp
  show marchlandref04_Fix.l0 (k + 1) _ _ _ = _
  rw [marchlandref04_Fix.l0, if_neg (by subst e; simp), e']
  exact h
 | cons x r ih =>
  intro pre e hp
  have ll : X.length = pre.length + (r.length + 1) := by rw [e]; simp
  by_cases h12 : pre.length = 12
  ·obtain ⟨K, h⟩ := fin_ pre hp
   refine ⟨K + 1, fun k hk => ?_⟩
   obtain ⟨k, rfl⟩ : ∃ m, k = m + 1 := ⟨k - 1, by omega⟩
   have h := h k (by omega); dsimp only at h
   have e' : X.take 12 = pre := by rw [e, ← h12]; simp
   show marchlandref04_Fix.l0 (k + 1) _ _ _ = _
   rw [marchlandref04_Fix.l0, if_pos (by omega), if_neg (by omega), e']
   exact h
  ·obtain ⟨K, h⟩ := ih (pre ++ [x]) (by simp [e]) (by simp; omega)
   refine ⟨K + 1, fun k hk => ?_⟩
   obtain ⟨k, rfl⟩ : ∃ m, k = m + 1 := ⟨k - 1, by omega⟩
   have h := h k (by omega); dsimp only at h
   have e1 : rd_T40 X (pre.length : Int) = x := by rw [e]; exact rd4 _ _ _ rfl
   have ew : wrap64 ((pre.length : Int) + 1) = ((pre ++ [x]).length : Int) := by rw [w64s (by omega)]; simp
   have em : pre.map fix4 ++ [(⟨x.f0, x.f1, wrap64 (1 + (wrap64 (Int.tmod (IntKind.u64.wrap x.f2) 5)))⟩ : S40)] = (pre ++ [x]).map fix4 := by simp [fix4]
   show marchlandref04_Fix.l0 (k + 1) _ _ _ = _
   rw [marchlandref04_Fix.l0, if_pos (by omega), if_pos (by omega), if_pos (by omega), if_pos (by simp; omega), e1, em, ew]
   exact h
theorem fix4_ev (X : List S40) : Ev (fun k => marchlandref04_Fix.f k X) ((sumk (((X.take 12).map fix4).map fix1)).map v) := fix4_l0 X X [] rfl (by simp)
/-- totals of small counts -/
theorem ins_bound {x : S50} {B : Int} (hB : 0 ≤ B ∧ B ≤ 1000000) (hx : 1 ≤ x.f2 ∧ x.f2 ≤ 5) : ∀ {l : List S50}, (∀ y ∈ l, 1 ≤ y.f2 ∧ y.f2 ≤ B) → ∀ y ∈ ins x l, 1 ≤ y.f2 ∧ y.f2 ≤ B + 5 := by
 intro l
 induction l with
 | nil => intro _ y hy; simp only [ins, List.mem_singleton] at hy; subst hy; omega
 | cons z l ih =>
  intro h y hy
  have hz := h z (by simp)
  have hl := fun w hw => h w (List.mem_cons_of_mem z hw)
  simp only [ins] at hy
  split at hy
  ·rcases List.mem_cons.1 hy with rfl | hy
   ·have : wrap64 (z.f2 + x.f2) = z.f2 + x.f2 := by unfold wrap64; omega
    simp only [plus, this]; omega
   ·have := hl y hy; omega
  ·split at hy
   ·rcases List.mem_cons.1 hy with rfl | hy
    ·omega
    ·have := h y hy; omega
   ·rcases List.mem_cons.1 hy with rfl | hy
    ·omega
    ·exact ih hl y hy
theorem fold_bound : ∀ (l a : List S50) (B : Int), (0 ≤ B ∧ B + 5 * l.length ≤ 1000000) → (∀ x ∈ l, 1 ≤ x.f2 ∧ x.f2 ≤ 5) → (∀ y ∈ a, 1 ≤ y.f2 ∧ y.f2 ≤ B) → ∀ y ∈ l.foldl (fun a x => ins x a) a, 1 ≤ y.f2 ∧ y.f2 ≤ B + 5 * l.length := by
 intro l
 induction l with
 | nil => intro a B _ _ h y hy; have := h y hy; simp; omega
 | cons x l ih =>
  intro a B hB hl ha y hy
  simp only [List.length_cons] at hB ⊢
  have := ih (ins x a) (B + 5) (by omega) (fun z hz => hl z (by simp [hz])) (ins_bound (by omega) (hl x (by simp)) ha) y hy
  omega
theorem fix1_f2 {x : S40} (h : 1 ≤ x.f2 ∧ x.f2 ≤ 5) : 1 ≤ (fix1 x).f2 ∧ (fix1 x).f2 ≤ 5 := by
 have : Int.tmod x.f2 1000 = x.f2 := Int.tmod_eq_of_lt (by omega) (by omega)
 simp only [fix1, this]; exact h
theorem fix4_pos (X : List S40) : ∀ y ∈ sumk (((X.take 12).map fix4).map fix1), 1 ≤ y.f2 ∧ y.f2 ≤ 60 := by
 intro y hy
 have hm : y ∈ tot (((X.take 12).map fix4).map fix1) := by
  unfold sumk at hy; split at hy
  ·exact (List.mem_filter.1 hy).1
  ·cases hy
 have hl : (((X.take 12).map fix4).map fix1).length ≤ 12 := by simp only [List.length_map, List.length_take]; omega
 have := fold_bound (((X.take 12).map fix4).map fix1) [] 0 (by omega) (fun x hx => by
  obtain ⟨z, hz, rfl⟩ := List.mem_map.1 hx
  obtain ⟨w, hw, rfl⟩ := List.mem_map.1 hz
  exact fix1_f2 (fix4_val w)) (fun _ h => by cases h) y hm
 omega
theorem fix4_rt {X : List S40} (h : ∀ y ∈ X, wfC y) : Rt (sumk (((X.take 12).map fix4).map fix1)) := sumk_rt (fun x hx => by
 obtain ⟨y, hy, rfl⟩ := List.mem_map.1 hx
 obtain ⟨w, hw, rfl⟩ := List.mem_map.1 hy
 exact fix1_key _ (fix4_wf (h w (List.mem_of_mem_take hw))))
theorem fix4_len (X : List S40) : (sumk (((X.take 12).map fix4).map fix1)).length ≤ 12 := by
 have := sumk_len (((X.take 12).map fix4).map fix1); rw [List.length_map, List.length_map, List.length_take] at this; omega
theorem told4 : Ev (fun k => marchlandlaw04_told.f k) true := Ev.of (fun k => marchlandlaw04_told.mono k) (k := 40) (by kernel_rfl)
end Go.Proofs.Ytgeldmhgbnamcaa.Pure
end
section
/- Plain laws of batches: how many there are of each key; what is small is told by that alone. -/
namespace Go.Proofs.Ytgeldmhgbnamcaa.Pure
open Go.RowKit Go.Proofs.Ytgeldmhgbnamcaa.P Go.Proofs.YtgeldmhgbnamcaaW.PrintWords Go.Proofs.YtgeldmhgbnamcaaW.PrintLast
set_option linter.unusedVariables false
set_option linter.unusedSimpArgs false
theorem ofv_key {q q' : S50} (h : ke q q') (l : List S50) : ofv l q = ofv l q' := by
 induction l with
 | nil => rfl
 | cons y l ih =>
  rw [ofv_cons, ofv_cons, ih]
  have : ke y q ↔ ke y q' := by unfold ke at *; omega
  by_cases c : ke y q
  ·rw [if_pos c, if_pos (this.1 c)]
  ·rw [if_neg c, if_neg (fun k => c (this.2 k))]
theorem mass_mem {l : List S50} {x : S50} (h : x ∈ l) : x.f2.natAbs ≤ mass l := by
 induction l with
 | nil => cases h
 | cons y l ih => simp only [mass]; rcases List.mem_cons.1 h with rfl | h; omega; have := ih h; omega
/-! ### what is computed -/
theorem applyv_small {A B : List S50} (hm : mass (A ++ B) ≤ 1000000000) : applyv A B = if bel A B = true then ([], 11) else (K (A ++ B), 0) := by
 unfold applyv bel
 rw [sumv_K hm]
end Go.Proofs.Ytgeldmhgbnamcaa.Pure
end
section
/- Plain laws of batches: what the laws' Fixes make is small; merges of what is small. -/
namespace Go.Proofs.Ytgeldmhgbnamcaa.Pure
open Go.RowKit Go.Proofs.Ytgeldmhgbnamcaa.P Go.Proofs.YtgeldmhgbnamcaaW.PrintWords Go.Proofs.YtgeldmhgbnamcaaW.PrintLast
set_option linter.unusedVariables false
set_option linter.unusedSimpArgs false
theorem fix4_sm {X : List S40} (h : ∀ y ∈ X, wfC y) : Sm (sumk (((X.take 12).map fix4).map fix1)) 12 := by
 have lm : (((X.take 12).map fix4).map fix1).length ≤ 12 := by rw [List.length_map, List.length_map, List.length_take]; omega
 have m : mass (((X.take 12).map fix4).map fix1) ≤ 12000 := by
  have := mass_le (B := 999) (l := ((X.take 12).map fix4).map fix1) (fun x hx => by obtain ⟨y, _, rfl⟩ := List.mem_map.1 hx; exact fix1_abs y)
  omega
 refine ⟨fix4_rt h, fix4_len X, ?_⟩
 rw [sumk_K (by omega)]; have := mass_K (((X.take 12).map fix4).map fix1); omega
theorem ap_ev {A B : List S50} (ha : Str A) (hl : A.length + B.length ≤ 1000000) : Ev (fun k => bag_Apply.f k A B) (applyv A B) := apply_ev ha (sorts_all _ (by simp only [List.length_append]; omega)) (by unfold Short; omega)
end Go.Proofs.Ytgeldmhgbnamcaa.Pure
end
section
/- Plain laws of bags: counts above nought stay so; the reference's Least and Right. -/
namespace Go.Proofs.Ytgeldmhgbnamcaa.Pure
open Go.RowKit Go.Proofs.Ytgeldmhgbnamcaa.P Go.Proofs.YtgeldmhgbnamcaaW.PrintWords Go.Proofs.YtgeldmhgbnamcaaW.PrintLast
set_option linter.unusedVariables false
set_option linter.unusedSimpArgs false
/-- every count is above nought -/
def Pos (A : List S50) : Prop := ∀ x ∈ A, 1 ≤ x.f2
theorem pos_ofv {A : List S50} (h : Pos A) (q : S50) : 0 ≤ ofv A q := by
 by_cases c : ofv A q = 0
 ·omega
 ·obtain ⟨y, hy, _, e⟩ := ofv_mem c
  have := h y hy; omega
theorem ofv_small {A : List S50} (hs : Str A) (q : S50) : (ofv A q).natAbs ≤ mass A := by rw [← cnt_str hs]; exact cnt_mass _ _
theorem nobel {A B : List S50} (hs : Str A) (hm : mass (A ++ B) ≤ 1000000000) (h : bel A B = false) : ∀ x ∈ B, 0 ≤ ofv A x + x.f2 := by
 intro x hx
 have := List.any_eq_false.1 h x hx
 have e : ofv A ⟨x.f0, x.f1, 0⟩ = ofv A x := ofv_key ⟨rfl, rfl⟩ A
 rw [e] at this
 have h1 := ofv_small hs x
 have h2 := mass_mem hx
 rw [mass_append] at hm
 simp only [decide_eq_true_eq] at this
 unfold wrap64 at this
 omega
theorem sum_ofv {A B : List S50} (hA : Str A) (hB : Str B) (hm : mass (A ++ B) ≤ 1000000000) (q : S50) : ofv (K (A ++ B)) q = ofv A q + ofv B q := by
 rw [ofv_K hm, cnt_append, cnt_str hA, cnt_str hB]
theorem sum_nonneg {A B : List S50} (hA : Str A) (hm : mass (A ++ B) ≤ 1000000000) (hp : Pos A) (h : bel A B = false) (q : S50) : 0 ≤ ofv A q + ofv B q := by
 by_cases c : ofv B q = 0
 ·have := pos_ofv hp q; omega
 ·obtain ⟨y, hy, ky, e⟩ := ofv_mem c
  have := nobel hA hm h y hy
  rw [ofv_key ky A, e] at this
  exact this
theorem ap_pos {A B : List S50} (hA : Str A) (hB : Str B) (hm : mass (A ++ B) ≤ 1000000000) (hp : Pos A) (h : bel A B = false) : Pos (K (A ++ B)) := by
 intro x hx
 have e := ofv_self (K_cn (A ++ B)).1 hx
 have nz := (K_cn (A ++ B)).2 x hx
 rw [sum_ofv hA hB hm] at e
 have := sum_nonneg hA hm hp h x
 omega
/-! ### the reference's Least -/
/-! ### Right of bags -/
end Go.Proofs.Ytgeldmhgbnamcaa.Pure
end
