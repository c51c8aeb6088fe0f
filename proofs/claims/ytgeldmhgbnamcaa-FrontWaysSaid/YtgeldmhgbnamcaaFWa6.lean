/- Walks and laws of several statements of this seat, joined into one text; no condition. -/
import Derived.Test.YtgeldmhgbnamcaaProg
import Derived.Below
import Derived.Deep.Draws
import Derived.Deep.AppendLies
import Derived.Maps.AppendAt
import Derived.OwnWalk
import Derived.Laws.BytesArg
import Derived.Laws.MakeOwn
import Derived.Laws.OwnMore
import Derived.Deep.OwnRows
import Derived.Tactics
import Derived.Lib.ConvBytes
import Derived.Laws.Slices
import Derived.WalkKit
import Derived.KernelRfl
import Derived.RowKit3
import Derived.Deep.LoopGhost
import Derived.Deep.QuietTactic
import Derived.BigQuiet
import Derived.WideLaws
import Derived.Deep.DeepCutAuto
import Derived.Deep.CutBlock
import Derived.Deep.RegionHeld3
import Derived.Laws.Rows
import Derived.Lib.AppendStr
import Derived.ArgAppend
import Derived.Laws.IdiomCopy
import Derived.OrdersHeld
import Derived.Laws.BitsLemmas
import Derived.RowKit
import Derived.Laws.StructEq
import Derived.Laws.CopyOwn
import Derived.Deep.RegionLaw
import Derived.LoopTactic
import Derived.Outline
import Derived.IntWalk
import Derived.Test.YtgeldmhgbnamcaaFWa0
import Derived.Test.YtgeldmhgbnamcaaFWa1
import Derived.Test.YtgeldmhgbnamcaaFWa2
import Derived.Test.YtgeldmhgbnamcaaFWa4
section
-- Printed by the session's own turn of the print (wip/tools/print2.sh): some callees are proved by hand.
namespace Go.Proofs.Ytgeldmhgbnamcaa.P
open Go.RowKit Go.Proofs.YtgeldmhgbnamcaaW.PrintWords Go.Proofs.YtgeldmhgbnamcaaW.PrintLast Go.Proofs.YtgeldmhgbnamcaaW.PrintMore
attribute [local go_sem] max2_int min2_int max_two min_two max_three min_three max_four min_four   -- for this text's walks alone
set_option linter.unusedVariables false
set_option linter.unusedSimpArgs false
/-! ### marchlandlaw05_To: function 40 -/
def marchlandlaw05_To.l0 : Nat → Int → Int → List (S90) → List Int → Int → List (S95) → List Int → Option (Int × (List (S95)) × List Int)
 | 0, _, _, _, _, _, _, _ => none
 | k + 1, x4, x734000, x734001, x734002, x742000, x742001, x742002 => if x4 < (x734001.length : Int) then (if 0 ≤ x4 then (if x742001.length < 5864062014805 then (marchlandlaw05_To.l0 k (wrap64 (x4 + 1)) x734000 x734001 x734002 x742000 (x742001 ++ [(⟨(rd_T90 x734001 x4).f0, (rd_T90 x734001 x4).f1, (rd_T90 x734001 x4).f2⟩ : S95)]) x742002) else (none)) else (none)) else (some (x742000, x742001, x742002))
def marchlandlaw05_To.f (k : Nat) (a0_0 : Int) (l0_1 : List (S90)) (l0_2 : List Int) : Option (Int × (List (S95)) × List Int) := (some (([] : List Int) : List Int)).bind fun y735 => (if y735.length + l0_2.length < 17592186044416 then (marchlandlaw05_To.l0 k 0 a0_0 l0_1 l0_2 a0_0 ([] : List (S95)) (y735 ++ l0_2)) else (none))
def marchlandlaw05_To.T1 : Bool × List (List Nat × List Nat) := (true, [([], []), ([0], [0]), ([], []), ([], []), ([3], [3]), ([2, 4], [2, 4]), ([1, 5], [1, 5]), ([], []), ([7, 6, 5, 0, 1, 2, 3, 4, 5, 6, 7], [6, 7])])
def marchlandlaw05_To.B1 : List Nat := [0, 1, 0, 0, 8, 28, 63, 0, 255]
theorem marchlandlaw05_To.tab1 : rtab .any (opsOf Try.f40 1) = marchlandlaw05_To.T1 := by kernel_rfl
theorem marchlandlaw05_To.bits1 : waitsOk marchlandlaw05_To.T1.2 marchlandlaw05_To.B1 = true := by kernel_rfl
def marchlandlaw05_To.T5 : Bool × List (List Nat × List Nat) := (true, [([], []), ([0], [0]), ([], []), ([2], [2]), ([], []), ([3, 4], [3, 4]), ([5], [5]), ([6], [6]), ([], []), ([8], [8]), ([], []), ([9, 10], [9, 10]), ([11], [11]), ([12], [12]), ([], []), ([14], [14]), ([], []), ([15, 16], [15, 16]), ([17], [17]), ([18], [18]), ([7, 13, 19], [7, 13, 19]), ([20], [20]), ([1, 21], [1, 21]), ([0, 1, 2, 3, 4, 5, 6, 7, 8, 9, 10, 11, 12, 13, 14, 15, 16, 17, 18, 19, 20, 21, 22], []), ([23, 22, 22, 0, 1, 2, 3, 4, 5, 6, 7, 8, 9, 10, 11, 12, 13, 14, 15, 16, 17, 18, 19, 20, 21, 22], [22, 23])])
def marchlandlaw05_To.B5 : List Nat := [0, 1, 0, 4, 0, 28, 60, 124, 0, 256, 0, 1792, 3840, 7936, 0, 16384, 0, 114688, 245760, 507904, 1048572, 2097148, 4194303, 8388607, 16777215]
theorem marchlandlaw05_To.tab5 : rtab .any (opsOf Try.f40 5) = marchlandlaw05_To.T5 := by kernel_rfl
theorem marchlandlaw05_To.bits5 : waitsOk marchlandlaw05_To.T5.2 marchlandlaw05_To.B5 = true := by kernel_rfl
set_option maxHeartbeats 8000000 in
set_option maxRecDepth 100000 in
theorem marchlandlaw05_To.calls (k : Nat) (a0_0 : Int) (A0_1 : Option Addr) (c0_1 : Nat) (l0_1 : List (S90)) (A0_2 : Option Addr) (c0_2 : Nat) (l0_2 : List Int) (r1 : Int) (r2 : List (S95)) (r3 : List Int) (w : World) (hr0_1 : Kd.C k90 w A0_1 l0_1.length l0_1) (hc0_1 : l0_1.length ≤ c0_1) (hr0_2 : Kd.C (Kd.int .i64) w A0_2 l0_2.length l0_2) (hc0_2 : l0_2.length ≤ c0_2) (h : marchlandlaw05_To.f k a0_0 l0_1 l0_2 = some (r1, r2, r3)) :
  Calls Try.prog 40 #[.agg #[.int .i64 a0_0, .slice A0_1 l0_1.length c0_1, .slice A0_2 l0_2.length c0_2]] w fun e w' => ∃ v1_ v2_ : Value, e = .returned (.agg #[.int .i64 r1, v1_, v2_]) ∧ Kd.R k95 95 w' w.heap.size (fun _ => True) v1_ r2 ∧ Kd.R (Kd.int .i64) 3 w' w.heap.size (fun _ => True) v2_ r3 ∧ Below w.heap.size w w' := by
 have hu58 := Try.underlying58
 have hu64 := Try.underlying64
 have hu95 := Try.underlying95
 have HR0_1 := Aside0.mk hr0_1
 have HC0_1 := Aside0.mk hc0_1
 clear hr0_1 hc0_1
 have HR0_2 := Aside0.mk hr0_2
 have HC0_2 := Aside0.mk hc0_2
 clear hr0_2 hc0_2
 have HB := Aside0.mk (Below.refl w.heap.size w)
 have H : ((some (([] : List Int) : List Int)).bind fun y735 => (if y735.length + l0_2.length < 17592186044416 then (marchlandlaw05_To.l0 k 0 a0_0 l0_1 l0_2 a0_0 ([] : List (S95)) (y735 ++ l0_2)) else (none))) = some (r1, r2, r3) := h
 clear h
 obtain ⟨y735, hy735⟩ : ∃ y_ : List Int, y_ = (([] : List Int)) := ⟨_, rfl⟩
 replace H : (if y735.length + l0_2.length < 17592186044416 then (marchlandlaw05_To.l0 k 0 a0_0 l0_1 l0_2 a0_0 ([] : List (S95)) (y735 ++ l0_2)) else (none)) = some (r1, r2, r3) := by first | (rw [hy735]; with_reducible exact H) | (have H2_ := (Option.bind_some _ _).symm.trans H; rw [hy735]; with_reducible exact H2_) | (have H2_ := (Option.bind_some _ _).symm.trans H; with_reducible exact H2_) | with_reducible exact H | (rw [hy735]; exact H) | exact H
 have Ny735 := Aside0.mk hy735
 clear hy735
 by_cases c2 : y735.length + l0_2.length < 17592186044416
 ·rw [if_pos c2] at H
  have LMc2 := Aside0.mk c2
  clear c2
  obtain ⟨y738, hy738⟩ : ∃ y_ : List Int, y_ = (y735 ++ l0_2) := ⟨_, rfl⟩
  replace H : (marchlandlaw05_To.l0 k 0 a0_0 l0_1 l0_2 a0_0 ([] : List (S95)) y738) = some (r1, r2, r3) := by first | (rw [hy738]; with_reducible exact H) | (have H2_ := (Option.bind_some _ _).symm.trans H; rw [hy738]; with_reducible exact H2_) | (have H2_ := (Option.bind_some _ _).symm.trans H; with_reducible exact H2_) | with_reducible exact H | (rw [hy738]; exact H) | exact H
  have Ny738 := Aside0.mk hy738
  clear hy738
  have H' := Aside0.mk H
  clear H
  go_enter Try.func40, Try.ntmps40
  try go_wp2_with (first | ((with_reducible refine gate_dst (N := 1) rfl ?_); refine box_event ?hg (N := 1) ?hd (cs := #[.int .i64 a0_0, .slice A0_1 l0_1.length c0_1, .slice A0_2 l0_2.length c0_2]) (t := 58) ?hr ?_; (case hd => rfl); (case hg => rfl); (case hr => first | (go_simp; done) | (go_simp; rfl)); intro gb733 hg w3 hbox hb; have n1_ := Aside0.mk (hbox); have n2_ := Aside0.mk ((by rw [hg]; exact (below_size (bn HB)) : w.heap.size ≤ gb733)); have n3_ := Aside0.mk ((by rw [hg]; exact (below_size (bn HB)) : w.heap.size ≤ gb733)); replace HB := bb HB hb; have BK733 := n1_; have GW733 := n2_; have GE733 := n3_; clear n1_ n2_ n3_; clear hb hbox hg) | ((with_reducible refine gate_dst (N := 2) rfl ?_); refine box_event ?hg (N := 2) ?hd (cs := #[.int .i64 0, .slice none 0 0, .slice none 0 0]) (t := 64) ?hr ?_; (case hd => rfl); (case hg => rfl); (case hr => first | (go_simp; done) | (go_simp; rfl)); intro gb734 hg w4 hbox hb; have n0_ := Aside0.mk (bkb BK733 hb); have n1_ := Aside0.mk (below_step (bn1 HB GE733) hb); have n2_ := Aside0.mk (hbox); have n3_ := Aside0.mk ((by rw [hg]; exact (below_size (bn1 HB GE733)) : w.heap.size ≤ gb734)); have n4_ := Aside0.mk ((by rw [hg]; exact (below_size (bn1 HB GE733)) : w.heap.size ≤ gb734)); have n5_ := Aside0.mk ((by rw [hg]; exact Nat.ne_of_lt (bkl BK733) : gb733 ≠ gb734)); have n6_ := Aside0.mk ((by rw [hg]; exact Nat.ne_of_gt (bkl BK733) : gb734 ≠ gb733)); clear BK733; clear HB; have BK733 := n0_; have HB := n1_; have BK734 := n2_; have GW734 := n3_; have GE734 := n4_; have NB733_734 := n5_; have NB734_733 := n6_; clear n0_ n1_ n2_ n3_ n4_ n5_ n6_; clear hb hbox hg))
  have n0_ := Aside0.mk (blk_drew BK733.out)
  have n1_ := Aside0.mk (blk_drew BK734.out)
  have n2_ := Aside0.mk (below_drew1 HB.out)
  clear BK733
  clear BK734
  clear HB
  have BK733 := n0_
  have BK734 := n1_
  have HB := n2_
  clear n0_ n1_ n2_
  refine start_ (n := 9) (S := fun w' => w'.cell? ⟨gb733, 0, none⟩ = some (.int .i64 a0_0) ∧ w'.cell? ⟨gb733, 1, none⟩ = some (.slice A0_1 l0_1.length c0_1) ∧ w'.cell? ⟨gb733, 2, none⟩ = some (.slice A0_2 l0_2.length c0_2)) (ds := []) (mk_ 0 9) (by kernel_rfl) rfl rfl ⟨(blk_cell BK733.out 0).trans rfl, (blk_cell BK733.out 1).trans rfl, (blk_cell BK733.out 2).trans rfl⟩ (fun hHeld => ?_); refine with_tabW marchlandlaw05_To.tab1 marchlandlaw05_To.bits1 (fun HT_ HW_ => ?_)
  generalize w4.drew = w5 at BK733 BK734 HB hHeld ⊢
  refine pv_ 0 5 (mk_ 1 8) HT_ ?_
  refine pv_ 3 8 #[true, false, false, true, false, false, false, false, false] HT_ ?_
  refine tv_ 1 6 #[true, true, false, true, false, false, false, false, false] HT_ HW_ hHeld (hy := by rintro w' ⟨s0, s1, s2⟩; go_simp; with_reducible rfl) (h := ?_)
  refine tv_ 4 9 #[true, true, false, true, true, false, false, false, false] HT_ HW_ hHeld (hy := by rintro w' ⟨s0, s1, s2⟩; go_simp; with_reducible rfl) (h := ?_)
  refine join_ (σ := Value × Value × Nat) 1 (mk_ 8 1) (fun s_ => [(7, s_.1), (10, s_.2.1), (3, .pointer (some ⟨s_.2.2, 0, none⟩)), (11, .agg #[.int .i64 a0_0, .slice none 0 0, s_.2.1])]) (fun s_ w' => (w'.cell? ⟨gb733, 0, none⟩ = some (.int .i64 a0_0) ∧ w'.cell? ⟨gb733, 1, none⟩ = some (.slice A0_1 l0_1.length c0_1) ∧ w'.cell? ⟨gb733, 2, none⟩ = some (.slice A0_2 l0_2.length c0_2)) ∧ (Kd.R (Kd.int .i64) 3 w' w.heap.size (fun _ => True) s_.2.1 y738) ∧ (w'.heap[gb733]? = some (.cells #[.int .i64 a0_0, .slice A0_1 l0_1.length c0_1, .slice A0_2 l0_2.length c0_2] 58 (0, 0))) ∧ (w'.heap[gb734]? = some (.cells #[.int .i64 0, .slice none 0 0, .slice none 0 0] 64 (0, 0))) ∧ (w'.heap[s_.2.2]? = some (.cells #[.int .i64 0, .slice none 0 0, .slice none 0 0] 64 (0, 0))) ∧ (w.heap.size ≤ s_.2.2) ∧ (w.heap.size ≤ s_.2.2) ∧ (gb733 ≠ s_.2.2) ∧ (s_.2.2 ≠ gb733) ∧ (gb734 ≠ s_.2.2) ∧ (s_.2.2 ≠ gb734) ∧ (Below w.heap.size w w')) ?_ ?_
  rotate_left
  ·intro hCont
   refine two_ (i := 2) (j := 7) (Ni := some 7) (Nj := some 3) (mk_ 5 4) #[true, true, false, true, true, false, false, true, false] rfl rfl rfl rfl (two_of HT_.out (by kernel_rfl)) (by decide) (by decide) (fun K hK => ?_) (fun K hK => ?_)
   ·skip
    refine Kd.R_lit_step (Kd.int .i64) _ 3 ?hg (N := 7) ?hd (xs := ([] : List Int)) (inner := []) (ok := fun _ => True) (okp := fun _ => True) ?hr ?hp (fun _ hk => hk) trivial (Below.refl _ _) (Nat.le_refl _) (by simp) ?_; (case hd => rfl); (case hg => rfl); (case hr => first | (go_simp; done) | (go_simp; rfl)); (case hp => exact (Reps.none _ _))
    intro v736 w6 ho7 hb hg_ hnew_
    clear hg_ hnew_
    (first | rw [← Ny735.out] at ho7 | (simp only [Int.reduceToNat] at ho7; rw [← Ny735.out] at ho7))
    have n0_ := Aside0.mk (Kd.R_lower ho7 (below_size (bn2 HB GE733 GE734)))
    have n1_ := Aside0.mk (bkb BK733 hb)
    have n2_ := Aside0.mk (bkb BK734 hb)
    have n3_ := Aside0.mk (below_step (bn2 HB GE733 GE734) hb)
    clear BK733
    clear BK734
    clear HB
    have HO737 := n0_
    have BK733 := n1_
    have BK734 := n2_
    have HB := n3_
    clear n0_ n1_ n2_ n3_
    clear hb ho7
    refine hK.out _ _ ⟨(blk_cell BK733.out 0).trans rfl, (blk_cell BK733.out 1).trans rfl, (blk_cell BK733.out 2).trans rfl⟩ (fun hHeld => ?_)
    clear hK K
    refine norm_ (a' := ?_) ?_ ?_
    rotate_left
    ·show Act.put _ (some 7) _ = _
     simp only [Act.put, List.setIfInBounds_toArray, List.set_cons_zero, List.set_cons_succ, i64_w, i32_w]
     rfl
    refine two_ (i := 5) (j := 7) (Ni := some 10) (Nj := some 3) (mk_ 6 3) #[true, true, true, true, true, false, false, true, false] rfl rfl rfl rfl (two_of HT_.out (by kernel_rfl)) (by decide) (by decide) (fun K hK => ?_) (fun K hK => ?_)
    ·skip
     refine Kd.R_append_rows_step (Kd.int .i64) (w0 := w) w.heap.size (by rfl) (.tmp 7) (.tmp 9) 56 3 (.int .i64 0) 8 rfl Try.underlying56 info3 rfl (by decide) (by omega) v736 y735 l0_2 _ _ _ (fun _ => True) (fun _ => False) rfl rfl ?aO ?aR (fun _ _ h => h) (fun _ h => h.elim) ?aF ?aB ?aS ?aL ?_
     (case aR => repeat (first | exact (Kd.C_below HR0_2.out HB.out) | (with_reducible refine Kd.C_alloc ?_ _) | (with_reducible refine Kd.C_drewN ?_ _) | (with_reducible refine Kd.C_drew ?_)))
     (case aB => exact (bn2 HB GE733 GE734))
     (case aF => exact (fun _ _ => trivial))
     (case aO => exact (rn HO737))
     (case aS => exact (below_size (bn2 HB GE733 GE734)))
     (case aL => have := LMc2.out; omega)
     intro v739 w8 ho hb hg hat
     rw [← Ny738.out] at ho
     have n0_ := Aside0.mk (blk_grown (g := gb733) (o := .cells #[.int .i64 a0_0, .slice A0_1 l0_1.length c0_1, .slice A0_2 l0_2.length c0_2] 58 (0, 0)) (bk BK733) hg (Kd.R_ne HO737.out BK733.out (by decide)))
     have n1_ := Aside0.mk (blk_grown (g := gb734) (o := .cells #[.int .i64 0, .slice none 0 0, .slice none 0 0] 64 (0, 0)) (bk BK734) hg (Kd.R_ne HO737.out BK734.out (by decide)))
     have n2_ := Aside0.mk (hb)
     have n3_ := Aside0.mk (ho)
     clear BK733
     clear BK734
     clear HB
     clear HO737
     have BK733 := n0_
     have BK734 := n1_
     have HB := n2_
     have HO740 := n3_
     clear n0_ n1_ n2_ n3_
     clear ho hb hg hat
     obtain ⟨Ao9, co9, eo9⟩ := Kd.R_slice HO740.out
     (first | subst eo9 | (injection eo9 with f1_ f2_ f3_; have f4_ := f1_.symm; have f5_ := f3_.symm; clear f1_ f2_ f3_; subst f4_; subst f5_))
     refine hK.out _ _ ⟨(blk_cell BK733.out 0).trans rfl, (blk_cell BK733.out 1).trans rfl, (blk_cell BK733.out 2).trans rfl⟩ (fun hHeld => ?_)
     clear hK K
     refine norm_ (a' := ?_) ?_ ?_
     rotate_left
     ·show Act.put _ (some 10) _ = _
      simp only [Act.put, List.setIfInBounds_toArray, List.set_cons_zero, List.set_cons_succ, i64_w, i32_w]
      rfl
     refine pv_ 6 11 (mk_ 7 2) HT_ ?_
     refine one_ (i := 7) (N := some 3) (mk_ 8 1) rfl rfl (one_of HT_.out (by kernel_rfl)) (by decide) (fun K hK => ?_)
     refine box_step ?hg (N := 3) ?hd (cs := #[.int .i64 0, .slice none 0 0, .slice none 0 0]) (t := 64) ?hr ?_; (case hd => rfl); (case hg => rfl); (case hr => first | (go_simp; done) | (go_simp; rfl))
     intro gb741 hg w10 hbox hb
     have n0_ := Aside0.mk (Kd.R_below (rn HO740) hb)
     have n1_ := Aside0.mk (bkb BK733 hb)
     have n2_ := Aside0.mk (bkb BK734 hb)
     have n3_ := Aside0.mk (below_step (bn2 HB GE733 GE734) hb)
     have n4_ := Aside0.mk (hbox)
     have n5_ := Aside0.mk ((by rw [hg]; exact (below_size (bn2 HB GE733 GE734)) : w.heap.size ≤ gb741))
     have n6_ := Aside0.mk ((by rw [hg]; exact (below_size (bn2 HB GE733 GE734)) : w.heap.size ≤ gb741))
     have n7_ := Aside0.mk ((by rw [hg]; exact Nat.ne_of_lt (bkl BK733) : gb733 ≠ gb741))
     have n8_ := Aside0.mk ((by rw [hg]; exact Nat.ne_of_gt (bkl BK733) : gb741 ≠ gb733))
     have n9_ := Aside0.mk ((by rw [hg]; exact Nat.ne_of_lt (bkl BK734) : gb734 ≠ gb741))
     have n10_ := Aside0.mk ((by rw [hg]; exact Nat.ne_of_gt (bkl BK734) : gb741 ≠ gb734))
     clear HO740
     clear BK733
     clear BK734
     clear HB
     have HO740 := n0_
     have BK733 := n1_
     have BK734 := n2_
     have HB := n3_
     have BK741 := n4_
     have GW741 := n5_
     have GE741 := n6_
     have NB733_741 := n7_
     have NB741_733 := n8_
     have NB734_741 := n9_
     have NB741_734 := n10_
     clear n0_ n1_ n2_ n3_ n4_ n5_ n6_ n7_ n8_ n9_ n10_
     clear hb hbox hg
     refine hK.out _ _ ⟨(blk_cell BK733.out 0).trans rfl, (blk_cell BK733.out 1).trans rfl, (blk_cell BK733.out 2).trans rfl⟩ (fun hHeld => ?_)
     clear hK K
     refine norm_ (a' := ?_) ?_ ?_
     rotate_left
     ·show Act.put _ (some 3) _ = _
      simp only [Act.put, List.setIfInBounds_toArray, List.set_cons_zero, List.set_cons_succ, i64_w, i32_w]
      rfl
     exact norm_ (by simp only [putAll, Act.put, List.setIfInBounds_toArray, List.set_cons_zero, List.set_cons_succ]) (hCont (v736, .slice Ao9 y738.length co9, gb741) _ ⟨hHeld, (rn HO740), (bk BK733), (bk BK734), (bk BK741), GW741.out, GE741.out, NB733_741.out, NB741_733.out, NB734_741.out, NB741_734.out, (bn3 HB GE733 GE734 GE741)⟩)
    ·skip
     refine box_step ?hg (N := 3) ?hd (cs := #[.int .i64 0, .slice none 0 0, .slice none 0 0]) (t := 64) ?hr ?_; (case hd => rfl); (case hg => rfl); (case hr => first | (go_simp; done) | (go_simp; rfl))
     intro gb741 hg w8 hbox hb
     have n0_ := Aside0.mk (Kd.R_below (rn HO737) hb)
     have n1_ := Aside0.mk (bkb BK733 hb)
     have n2_ := Aside0.mk (bkb BK734 hb)
     have n3_ := Aside0.mk (below_step (bn2 HB GE733 GE734) hb)
     have n4_ := Aside0.mk (hbox)
     have n5_ := Aside0.mk ((by rw [hg]; exact (below_size (bn2 HB GE733 GE734)) : w.heap.size ≤ gb741))
     have n6_ := Aside0.mk ((by rw [hg]; exact (below_size (bn2 HB GE733 GE734)) : w.heap.size ≤ gb741))
     have n7_ := Aside0.mk ((by rw [hg]; exact Nat.ne_of_lt (bkl BK733) : gb733 ≠ gb741))
     have n8_ := Aside0.mk ((by rw [hg]; exact Nat.ne_of_gt (bkl BK733) : gb741 ≠ gb733))
     have n9_ := Aside0.mk ((by rw [hg]; exact Nat.ne_of_lt (bkl BK734) : gb734 ≠ gb741))
     have n10_ := Aside0.mk ((by rw [hg]; exact Nat.ne_of_gt (bkl BK734) : gb741 ≠ gb734))
     clear HO737
     clear BK733
     clear BK734
     clear HB
     have HO737 := n0_
     have BK733 := n1_
     have BK734 := n2_
     have HB := n3_
     have BK741 := n4_
     have GW741 := n5_
     have GE741 := n6_
     have NB733_741 := n7_
     have NB741_733 := n8_
     have NB734_741 := n9_
     have NB741_734 := n10_
     clear n0_ n1_ n2_ n3_ n4_ n5_ n6_ n7_ n8_ n9_ n10_
     clear hb hbox hg
     refine hK.out _ _ ⟨(blk_cell BK733.out 0).trans rfl, (blk_cell BK733.out 1).trans rfl, (blk_cell BK733.out 2).trans rfl⟩ (fun hHeld => ?_)
     clear hK K
     refine norm_ (a' := ?_) ?_ ?_
     rotate_left
     ·show Act.put _ (some 3) _ = _
      simp only [Act.put, List.setIfInBounds_toArray, List.set_cons_zero, List.set_cons_succ, i64_w, i32_w]
      rfl
     refine one_ (i := 5) (N := some 10) #[true, true, true, true, true, true, false, true, false] rfl rfl (one_of HT_.out (by kernel_rfl)) (by decide) (fun K hK => ?_)
     refine Kd.R_append_rows_step (Kd.int .i64) (w0 := w) w.heap.size (by rfl) (.tmp 7) (.tmp 9) 56 3 (.int .i64 0) 8 rfl Try.underlying56 info3 rfl (by decide) (by omega) v736 y735 l0_2 _ _ _ (fun _ => True) (fun _ => False) rfl rfl ?aO ?aR (fun _ _ h => h) (fun _ h => h.elim) ?aF ?aB ?aS ?aL ?_
     (case aR => repeat (first | exact (Kd.C_below HR0_2.out HB.out) | (with_reducible refine Kd.C_alloc ?_ _) | (with_reducible refine Kd.C_drewN ?_ _) | (with_reducible refine Kd.C_drew ?_)))
     (case aB => exact (bn3 HB GE733 GE734 GE741))
     (case aF => exact (fun _ _ => trivial))
     (case aO => exact (rn HO737))
     (case aS => exact (below_size (bn3 HB GE733 GE734 GE741)))
     (case aL => have := LMc2.out; omega)
     intro v739 w9 ho hb hg hat
     rw [← Ny738.out] at ho
     have n0_ := Aside0.mk (blk_grown (g := gb733) (o := .cells #[.int .i64 a0_0, .slice A0_1 l0_1.length c0_1, .slice A0_2 l0_2.length c0_2] 58 (0, 0)) (bk BK733) hg (Kd.R_ne HO737.out BK733.out (by decide)))
     have n1_ := Aside0.mk (blk_grown (g := gb734) (o := .cells #[.int .i64 0, .slice none 0 0, .slice none 0 0] 64 (0, 0)) (bk BK734) hg (Kd.R_ne HO737.out BK734.out (by decide)))
     have n2_ := Aside0.mk (blk_grown (g := gb741) (o := .cells #[.int .i64 0, .slice none 0 0, .slice none 0 0] 64 (0, 0)) (bk BK741) hg (Kd.R_ne HO737.out BK741.out (by decide)))
     have n3_ := Aside0.mk (hb)
     have n4_ := Aside0.mk (ho)
     clear BK733
     clear BK734
     clear BK741
     clear HB
     clear HO737
     have BK733 := n0_
     have BK734 := n1_
     have BK741 := n2_
     have HB := n3_
     have HO740 := n4_
     clear n0_ n1_ n2_ n3_ n4_
     clear ho hb hg hat
     obtain ⟨Ao10, co10, eo10⟩ := Kd.R_slice HO740.out
     (first | subst eo10 | (injection eo10 with f1_ f2_ f3_; have f4_ := f1_.symm; have f5_ := f3_.symm; clear f1_ f2_ f3_; subst f4_; subst f5_))
     refine hK.out _ _ ⟨(blk_cell BK733.out 0).trans rfl, (blk_cell BK733.out 1).trans rfl, (blk_cell BK733.out 2).trans rfl⟩ (fun hHeld => ?_)
     clear hK K
     refine norm_ (a' := ?_) ?_ ?_
     rotate_left
     ·show Act.put _ (some 10) _ = _
      simp only [Act.put, List.setIfInBounds_toArray, List.set_cons_zero, List.set_cons_succ, i64_w, i32_w]
      rfl
     refine pv_ 6 11 (mk_ 8 1) HT_ ?_
     exact norm_ (by simp only [putAll, Act.put, List.setIfInBounds_toArray, List.set_cons_zero, List.set_cons_succ]) (hCont (v736, .slice Ao10 y738.length co10, gb741) _ ⟨hHeld, (rn HO740), (bk BK733), (bk BK734), (bk BK741), GW741.out, GE741.out, NB733_741.out, NB741_733.out, NB734_741.out, NB741_734.out, (bn3 HB GE733 GE734 GE741)⟩)
   ·skip
    refine box_step ?hg (N := 3) ?hd (cs := #[.int .i64 0, .slice none 0 0, .slice none 0 0]) (t := 64) ?hr ?_; (case hd => rfl); (case hg => rfl); (case hr => first | (go_simp; done) | (go_simp; rfl))
    intro gb741 hg w6 hbox hb
    have n0_ := Aside0.mk (bkb BK733 hb)
    have n1_ := Aside0.mk (bkb BK734 hb)
    have n2_ := Aside0.mk (below_step (bn2 HB GE733 GE734) hb)
    have n3_ := Aside0.mk (hbox)
    have n4_ := Aside0.mk ((by rw [hg]; exact (below_size (bn2 HB GE733 GE734)) : w.heap.size ≤ gb741))
    have n5_ := Aside0.mk ((by rw [hg]; exact (below_size (bn2 HB GE733 GE734)) : w.heap.size ≤ gb741))
    have n6_ := Aside0.mk ((by rw [hg]; exact Nat.ne_of_lt (bkl BK733) : gb733 ≠ gb741))
    have n7_ := Aside0.mk ((by rw [hg]; exact Nat.ne_of_gt (bkl BK733) : gb741 ≠ gb733))
    have n8_ := Aside0.mk ((by rw [hg]; exact Nat.ne_of_lt (bkl BK734) : gb734 ≠ gb741))
    have n9_ := Aside0.mk ((by rw [hg]; exact Nat.ne_of_gt (bkl BK734) : gb741 ≠ gb734))
    clear BK733
    clear BK734
    clear HB
    have BK733 := n0_
    have BK734 := n1_
    have HB := n2_
    have BK741 := n3_
    have GW741 := n4_
    have GE741 := n5_
    have NB733_741 := n6_
    have NB741_733 := n7_
    have NB734_741 := n8_
    have NB741_734 := n9_
    clear n0_ n1_ n2_ n3_ n4_ n5_ n6_ n7_ n8_ n9_
    clear hb hbox hg
    refine hK.out _ _ ⟨(blk_cell BK733.out 0).trans rfl, (blk_cell BK733.out 1).trans rfl, (blk_cell BK733.out 2).trans rfl⟩ (fun hHeld => ?_)
    clear hK K
    refine norm_ (a' := ?_) ?_ ?_
    rotate_left
    ·show Act.put _ (some 3) _ = _
     simp only [Act.put, List.setIfInBounds_toArray, List.set_cons_zero, List.set_cons_succ, i64_w, i32_w]
     rfl
    refine one_ (i := 2) (N := some 7) #[true, true, true, true, true, false, false, true, false] rfl rfl (one_of HT_.out (by kernel_rfl)) (by decide) (fun K hK => ?_)
    refine Kd.R_lit_step (Kd.int .i64) _ 3 ?hg (N := 7) ?hd (xs := ([] : List Int)) (inner := []) (ok := fun _ => True) (okp := fun _ => True) ?hr ?hp (fun _ hk => hk) trivial (Below.refl _ _) (Nat.le_refl _) (by simp) ?_; (case hd => rfl); (case hg => rfl); (case hr => first | (go_simp; done) | (go_simp; rfl)); (case hp => exact (Reps.none _ _))
    intro v736 w7 ho8 hb hg_ hnew_
    clear hg_ hnew_
    (first | rw [← Ny735.out] at ho8 | (simp only [Int.reduceToNat] at ho8; rw [← Ny735.out] at ho8))
    have n0_ := Aside0.mk (Kd.R_lower ho8 (below_size (bn3 HB GE733 GE734 GE741)))
    have n1_ := Aside0.mk (bkb BK733 hb)
    have n2_ := Aside0.mk (bkb BK734 hb)
    have n3_ := Aside0.mk (bkb BK741 hb)
    have n4_ := Aside0.mk (below_step (bn3 HB GE733 GE734 GE741) hb)
    clear BK733
    clear BK734
    clear BK741
    clear HB
    have HO737 := n0_
    have BK733 := n1_
    have BK734 := n2_
    have BK741 := n3_
    have HB := n4_
    clear n0_ n1_ n2_ n3_ n4_
    clear hb ho8
    refine hK.out _ _ ⟨(blk_cell BK733.out 0).trans rfl, (blk_cell BK733.out 1).trans rfl, (blk_cell BK733.out 2).trans rfl⟩ (fun hHeld => ?_)
    clear hK K
    refine norm_ (a' := ?_) ?_ ?_
    rotate_left
    ·show Act.put _ (some 7) _ = _
     simp only [Act.put, List.setIfInBounds_toArray, List.set_cons_zero, List.set_cons_succ, i64_w, i32_w]
     rfl
    refine one_ (i := 5) (N := some 10) #[true, true, true, true, true, true, false, true, false] rfl rfl (one_of HT_.out (by kernel_rfl)) (by decide) (fun K hK => ?_)
    refine Kd.R_append_rows_step (Kd.int .i64) (w0 := w) w.heap.size (by rfl) (.tmp 7) (.tmp 9) 56 3 (.int .i64 0) 8 rfl Try.underlying56 info3 rfl (by decide) (by omega) v736 y735 l0_2 _ _ _ (fun _ => True) (fun _ => False) rfl rfl ?aO ?aR (fun _ _ h => h) (fun _ h => h.elim) ?aF ?aB ?aS ?aL ?_
    (case aR => repeat (first | exact (Kd.C_below HR0_2.out HB.out) | (with_reducible refine Kd.C_alloc ?_ _) | (with_reducible refine Kd.C_drewN ?_ _) | (with_reducible refine Kd.C_drew ?_)))
    (case aB => exact (bn3 HB GE733 GE734 GE741))
    (case aF => exact (fun _ _ => trivial))
    (case aO => exact (rn HO737))
    (case aS => exact (below_size (bn3 HB GE733 GE734 GE741)))
    (case aL => have := LMc2.out; omega)
    intro v739 w9 ho hb hg hat
    rw [← Ny738.out] at ho
    have n0_ := Aside0.mk (blk_grown (g := gb733) (o := .cells #[.int .i64 a0_0, .slice A0_1 l0_1.length c0_1, .slice A0_2 l0_2.length c0_2] 58 (0, 0)) (bk BK733) hg (Kd.R_ne HO737.out BK733.out (by decide)))
    have n1_ := Aside0.mk (blk_grown (g := gb734) (o := .cells #[.int .i64 0, .slice none 0 0, .slice none 0 0] 64 (0, 0)) (bk BK734) hg (Kd.R_ne HO737.out BK734.out (by decide)))
    have n2_ := Aside0.mk (blk_grown (g := gb741) (o := .cells #[.int .i64 0, .slice none 0 0, .slice none 0 0] 64 (0, 0)) (bk BK741) hg (Kd.R_ne HO737.out BK741.out (by decide)))
    have n3_ := Aside0.mk (hb)
    have n4_ := Aside0.mk (ho)
    clear BK733
    clear BK734
    clear BK741
    clear HB
    clear HO737
    have BK733 := n0_
    have BK734 := n1_
    have BK741 := n2_
    have HB := n3_
    have HO740 := n4_
    clear n0_ n1_ n2_ n3_ n4_
    clear ho hb hg hat
    obtain ⟨Ao10, co10, eo10⟩ := Kd.R_slice HO740.out
    (first | subst eo10 | (injection eo10 with f1_ f2_ f3_; have f4_ := f1_.symm; have f5_ := f3_.symm; clear f1_ f2_ f3_; subst f4_; subst f5_))
    refine hK.out _ _ ⟨(blk_cell BK733.out 0).trans rfl, (blk_cell BK733.out 1).trans rfl, (blk_cell BK733.out 2).trans rfl⟩ (fun hHeld => ?_)
    clear hK K
    refine norm_ (a' := ?_) ?_ ?_
    rotate_left
    ·show Act.put _ (some 10) _ = _
     simp only [Act.put, List.setIfInBounds_toArray, List.set_cons_zero, List.set_cons_succ, i64_w, i32_w]
     rfl
    refine pv_ 6 11 (mk_ 8 1) HT_ ?_
    exact norm_ (by simp only [putAll, Act.put, List.setIfInBounds_toArray, List.set_cons_zero, List.set_cons_succ]) (hCont (v736, .slice Ao10 y738.length co10, gb741) _ ⟨hHeld, (rn HO740), (bk BK733), (bk BK734), (bk BK741), GW741.out, GE741.out, NB733_741.out, NB741_733.out, NB734_741.out, NB741_734.out, (bn3 HB GE733 GE734 GE741)⟩)
  rintro ⟨v736, v739, gb741⟩ w11 ⟨hS_, h0_, h1_, h2_, h3_, h4_, h5_, h6_, h7_, h8_, h9_, h10_⟩
  have n0_ : Aside0 (Kd.R (Kd.int .i64) 3 w11 w.heap.size (fun _ => True) v739 y738) := ⟨h0_⟩
  have n1_ : Aside0 (w11.heap[gb733]? = some (.cells #[.int .i64 a0_0, .slice A0_1 l0_1.length c0_1, .slice A0_2 l0_2.length c0_2] 58 (0, 0))) := ⟨h1_⟩
  have n2_ : Aside0 (w11.heap[gb734]? = some (.cells #[.int .i64 0, .slice none 0 0, .slice none 0 0] 64 (0, 0))) := ⟨h2_⟩
  have n3_ : Aside0 (w11.heap[gb741]? = some (.cells #[.int .i64 0, .slice none 0 0, .slice none 0 0] 64 (0, 0))) := ⟨h3_⟩
  have n4_ : Aside0 (w.heap.size ≤ gb741) := ⟨h4_⟩
  have n5_ : Aside0 (w.heap.size ≤ gb741) := ⟨h5_⟩
  have n6_ : Aside0 (gb733 ≠ gb741) := ⟨h6_⟩
  have n7_ : Aside0 (gb741 ≠ gb733) := ⟨h7_⟩
  have n8_ : Aside0 (gb734 ≠ gb741) := ⟨h8_⟩
  have n9_ : Aside0 (gb741 ≠ gb734) := ⟨h9_⟩
  have n10_ : Aside0 (Below w.heap.size w w11) := ⟨h10_⟩
  clear BK733
  clear BK734
  clear HB
  clear h0_ h1_ h2_ h3_ h4_ h5_ h6_ h7_ h8_ h9_ h10_
  have HO740 := n0_
  have BK733 := n1_
  have BK734 := n2_
  have BK741 := n3_
  have GW741 := n4_
  have GE741 := n5_
  have NB733_741 := n6_
  have NB741_733 := n7_
  have NB734_741 := n8_
  have NB741_734 := n9_
  have HB := n10_
  clear n0_ n1_ n2_ n3_ n4_ n5_ n6_ n7_ n8_ n9_ n10_
  have hHeld : w11.cell? ⟨gb733, 0, none⟩ = some (.int .i64 a0_0) ∧ w11.cell? ⟨gb733, 1, none⟩ = some (.slice A0_1 l0_1.length c0_1) ∧ w11.cell? ⟨gb733, 2, none⟩ = some (.slice A0_2 l0_2.length c0_2) := hS_
  obtain ⟨Ao12, co12, eo12⟩ := Kd.R_slice HO740.out
  (first | subst eo12 | (injection eo12 with f1_ f2_ f3_; have f4_ := f1_.symm; have f5_ := f3_.symm; clear f1_ f2_ f3_; subst f4_; subst f5_))
  refine norm_ (a' := ?_) ?_ ?_
  rotate_left
  ·simp only [putAll, Act.put, List.setIfInBounds_toArray, List.set_cons_zero, List.set_cons_succ]
   rfl
  refine one_ (i := 8) (N := none) (mk_ 9 0) rfl rfl (one_of HT_.out (by kernel_rfl)) (by decide) (fun K hK => ?_)
  have hs13 : w11.cell? ⟨gb741, 0, none⟩ = some (.int .i64 0) := (blk_cell BK741.out 0).trans rfl
  have hfs13 := blk_frozen BK741.out 0
  have hns13_0 := NB733_741.out
  have hns13_1 := NB734_741.out
  have hms13_0 := NB741_733.out
  have hms13_1 := NB741_734.out
  have hs14 : w11.cell? ⟨gb741, 1, none⟩ = some (.slice none 0 0) := (blk_cell BK741.out 1).trans rfl
  have hfs14 := blk_frozen BK741.out 1
  have hns14_0 := NB733_741.out
  have hns14_1 := NB734_741.out
  have hms14_0 := NB741_733.out
  have hms14_1 := NB741_734.out
  have hs15 : w11.cell? ⟨gb741, 2, none⟩ = some (.slice none 0 0) := (blk_cell BK741.out 2).trans rfl
  have hfs15 := blk_frozen BK741.out 2
  have hns15_0 := NB733_741.out
  have hns15_1 := NB734_741.out
  have hms15_0 := NB741_733.out
  have hms15_1 := NB741_734.out
  refine skip_ (w1 := ?_) (by rfl) rfl ?_ ?_
  rotate_left
  ·go_simp
   rfl
  refine hK.out _ _ ⟨((cell_far (p := ⟨gb741, _, none⟩) NB733_741.out _).trans (((cell_far (p := ⟨gb741, _, none⟩) NB733_741.out _).trans (((cell_far (p := ⟨gb741, _, none⟩) NB733_741.out _).trans (hHeld.1)))))), ((cell_far (p := ⟨gb741, _, none⟩) NB733_741.out _).trans (((cell_far (p := ⟨gb741, _, none⟩) NB733_741.out _).trans (((cell_far (p := ⟨gb741, _, none⟩) NB733_741.out _).trans (hHeld.2.1)))))), ((cell_far (p := ⟨gb741, _, none⟩) NB733_741.out _).trans (((cell_far (p := ⟨gb741, _, none⟩) NB733_741.out _).trans (((cell_far (p := ⟨gb741, _, none⟩) NB733_741.out _).trans (hHeld.2.2))))))⟩ (fun hHeld => ?_)
  clear hK K
  refine done_ (done_of HT_.out (by kernel_rfl)) ?_
  try go_wp2
  go_loopg [4] k (fun kq v4 w' => ∃ (x4_1 : Int) (x742001_1 : List (S95)) (u742001 : Value), v4 = .int .i64 x4_1 ∧ Aside0 (marchlandlaw05_To.l0 kq x4_1 a0_0 l0_1 l0_2 a0_0 x742001_1 y738 = some (r1, r2, r3)) ∧ Aside0 (kq ≤ k) ∧ Aside0 (Kd.R k95 95 w' w.heap.size (fun _ => True) u742001 x742001_1) ∧ Aside0 (Kd.R (Kd.int .i64) 3 w' w.heap.size (fun _ => True) (.slice Ao12 y738.length co12) y738) ∧ Aside0 (w'.heap[gb733]? = some (.cells #[.int .i64 a0_0, (.slice A0_1 l0_1.length c0_1), (.slice A0_2 l0_2.length c0_2)] 58 (0, 0))) ∧ Aside0 (w'.heap[gb734]? = some (.cells #[.int .i64 0, (.slice none 0 0), (.slice none 0 0)] 64 (0, 0))) ∧ Aside0 (w'.heap[gb741]? = some (.cells #[.int .i64 a0_0, u742001, (.slice Ao12 y738.length co12)] 64 (0, 0))) ∧ Aside0 (Below w.heap.size w w'))
  case atStart => exact ⟨(0), (([] : List (S95))), (.slice none 0 0), (by first | rfl | (simp; done) | (simp [*]; done)), H', ⟨Nat.le_refl _⟩, ⟨by first | exact Kd.R_nil _ _ _ _ _ | exact Kd.N_nil _ _ _ _ _ | exact Kd.V_nil _ _ _ _ _ | exact Kd.Q_nil _ _ _ _ _ | exact Kd.S_nil _ _ _ _ _⟩, ⟨by (with_reducible repeat (first | apply Kd.R_alloc | apply Kd.R_drewN | apply Kd.R_drew)); exact Kd.R_mono (Kd.R_far (p := ⟨gb741, 2, none⟩) (Kd.R_far (p := ⟨gb741, 1, none⟩) (Kd.R_far (p := ⟨gb741, 0, none⟩) (Kd.R_types HO740.out BK741.out (by decide)) (fun _ hk => hk.2) (.int .i64 a0_0)) (fun _ hk => hk.2) (.slice none 0 0)) (fun _ hk => hk.2) (.slice Ao12 y738.length co12)) (fun _ hk => trivial)⟩, ⟨by (with_reducible repeat (first | refine blk_drewN ?_ _ | refine blk_drew ?_ | refine blk_alloc ?_ _)); refine blk_far ?_ NB733_741.out _; (with_reducible repeat (first | refine blk_drewN ?_ _ | refine blk_drew ?_ | refine blk_alloc ?_ _)); refine blk_far ?_ NB733_741.out _; (with_reducible repeat (first | refine blk_drewN ?_ _ | refine blk_drew ?_ | refine blk_alloc ?_ _)); refine blk_far ?_ NB733_741.out _; (with_reducible repeat (first | refine blk_drewN ?_ _ | refine blk_drew ?_ | refine blk_alloc ?_ _)); exact BK733.out⟩, ⟨by (with_reducible repeat (first | refine blk_drewN ?_ _ | refine blk_drew ?_ | refine blk_alloc ?_ _)); refine blk_far ?_ NB734_741.out _; (with_reducible repeat (first | refine blk_drewN ?_ _ | refine blk_drew ?_ | refine blk_alloc ?_ _)); refine blk_far ?_ NB734_741.out _; (with_reducible repeat (first | refine blk_drewN ?_ _ | refine blk_drew ?_ | refine blk_alloc ?_ _)); refine blk_far ?_ NB734_741.out _; (with_reducible repeat (first | refine blk_drewN ?_ _ | refine blk_drew ?_ | refine blk_alloc ?_ _)); exact BK734.out⟩, ⟨by (with_reducible repeat (first | refine blk_drewN ?_ _ | refine blk_drew ?_ | refine blk_alloc ?_ _)); refine blk_put (cs := #[.int .i64 a0_0, .slice none 0 0, .slice none 0 0]) ?_ 2 _ rfl; (with_reducible repeat (first | refine blk_drewN ?_ _ | refine blk_drew ?_ | refine blk_alloc ?_ _)); refine blk_put (cs := #[.int .i64 a0_0, .slice none 0 0, .slice none 0 0]) ?_ 1 _ rfl; (with_reducible repeat (first | refine blk_drewN ?_ _ | refine blk_drew ?_ | refine blk_alloc ?_ _)); refine blk_put (cs := #[.int .i64 0, .slice none 0 0, .slice none 0 0]) ?_ 0 _ rfl; (with_reducible repeat (first | refine blk_drewN ?_ _ | refine blk_drew ?_ | refine blk_alloc ?_ _)); exact BK741.out⟩, ⟨bn3 HB GE733 GE734 GE741⟩⟩
  case round =>
   clear H'
   (try clear c2); (try clear p2); (try clear c4)
   obtain ⟨x4_1, x742001_1, u742001, rfl, HA, HK1, HO_742001, HO_742002, BK733, BK734, BK741, HB⟩ := hrel
   cases gk with
   | zero => exact absurd HA.out (by simp [marchlandlaw05_To.l0])
   | succ k1 =>
    have H := HA.out
    clear HA
    simp only [marchlandlaw05_To.l0] at H
    by_cases c16 : x4_1 < (l0_1.length : Int)
    ·rw [if_pos c16] at H
     have c16b0 : decide (x4_1 < (l0_1.length : Int)) = true := decide_eq_true c16
     clear c16
     by_cases c17 : 0 ≤ x4_1
     ·rw [if_pos c17] at H
      have c17b0 : decide (0 ≤ x4_1) = true := decide_eq_true c17
      clear c17
      by_cases c18 : x742001_1.length < 5864062014805
      ·rw [if_pos c18] at H
       have LMc18 := Aside0.mk c18
       clear c18
       obtain ⟨y745, hy745⟩ : ∃ y_ : List (S95), y_ = (x742001_1 ++ [(⟨(rd_T90 l0_1 x4_1).f0, (rd_T90 l0_1 x4_1).f1, (rd_T90 l0_1 x4_1).f2⟩ : S95)]) := ⟨_, rfl⟩
       replace H : (marchlandlaw05_To.l0 k1 (wrap64 (x4_1 + 1)) a0_0 l0_1 l0_2 a0_0 y745 y738) = some (r1, r2, r3) := by first | (rw [hy745]; with_reducible exact H) | (have H2_ := (Option.bind_some _ _).symm.trans H; rw [hy745]; with_reducible exact H2_) | (have H2_ := (Option.bind_some _ _).symm.trans H; with_reducible exact H2_) | with_reducible exact H | (rw [hy745]; exact H) | exact H
       have Ny745 := Aside0.mk hy745
       clear hy745
       have H' := Aside0.mk H
       clear H
       have hnb19 := NB733_734.out
       have hnc19 := NB734_733.out
       have hnb20 := NB733_741.out
       have hnc20 := NB741_733.out
       have hcz21_0 : wr.cell? ⟨gb733, 0, none⟩ = some (.int .i64 a0_0) := (blk_cell BK733.out 0).trans rfl
       have hcz21_1 : wr.cell? ⟨gb733, 1, none⟩ = some (.slice A0_1 l0_1.length c0_1) := (blk_cell BK733.out 1).trans rfl
       have hcz21_2 : wr.cell? ⟨gb733, 2, none⟩ = some (.slice A0_2 l0_2.length c0_2) := (blk_cell BK733.out 2).trans rfl
       have hfz21_0 := blk_frozen BK733.out 0
       have hfz21_1 := blk_frozen BK733.out 1
       have hfz21_2 := blk_frozen BK733.out 2
       try go_wp2
       have n0_ := Aside0.mk (Kd.R_drew HO_742001.out)
       have n1_ := Aside0.mk (Kd.R_drew HO_742002.out)
       have n2_ := Aside0.mk (blk_drew BK733.out)
       have n3_ := Aside0.mk (blk_drew BK734.out)
       have n4_ := Aside0.mk (blk_drew BK741.out)
       have n5_ := Aside0.mk (below_drew1 HB.out)
       clear HO_742001
       clear HO_742002
       clear BK733
       clear BK734
       clear BK741
       clear HB
       have HO_742001 := n0_
       have HO_742002 := n1_
       have BK733 := n2_
       have BK734 := n3_
       have BK741 := n4_
       have HB := n5_
       clear n0_ n1_ n2_ n3_ n4_ n5_
       have p742 : 0 ≤ (x4_1 : Int) := of_decide_eq_true (by assumption)
       have q742 : x4_1 < (l0_1.length : Int) := of_decide_eq_true (by assumption)
       obtain ⟨ad742, e742, hx742_0, hx742_1, hx742_2⟩ := at_T90 HR0_1.out x4_1 p742 q742
       have hw742_2 := hx742_2
       have hw742_1 := hx742_1
       have hw742_0 := hx742_0
       cases e742
       replace hx742_0 := ct HB hx742_0
       replace hx742_1 := ct HB hx742_1
       replace hx742_2 := ct HB hx742_2
       replace p742 := eq_true p742
       replace q742 := eq_true q742
       have p743 : 0 ≤ (x4_1 : Int) := of_decide_eq_true (by assumption)
       have q743 : x4_1 < (l0_1.length : Int) := of_decide_eq_true (by assumption)
       obtain ⟨ad743, e743, hx743_0, hx743_1, hx743_2⟩ := at_T90 HR0_1.out x4_1 p743 q743
       have hw743_2 := hx743_2
       have hw743_1 := hx743_1
       have hw743_0 := hx743_0
       obtain rfl : ad742 = ad743 := (by injection e743)
       replace hx743_0 := ct HB hx743_0
       replace hx743_1 := ct HB hx743_1
       replace hx743_2 := ct HB hx743_2
       replace p743 := eq_true p743
       replace q743 := eq_true q743
       have p744 : 0 ≤ (x4_1 : Int) := of_decide_eq_true (by assumption)
       have q744 : x4_1 < (l0_1.length : Int) := of_decide_eq_true (by assumption)
       obtain ⟨ad744, e744, hx744_0, hx744_1, hx744_2⟩ := at_T90 HR0_1.out x4_1 p744 q744
       have hw744_2 := hx744_2
       have hw744_1 := hx744_1
       have hw744_0 := hx744_0
       obtain rfl : ad742 = ad744 := (by injection e744)
       replace hx744_0 := ct HB hx744_0
       replace hx744_1 := ct HB hx744_1
       replace hx744_2 := ct HB hx744_2
       replace p744 := eq_true p744
       replace q744 := eq_true q744
       refine start_ (n := 25) (S := fun w' => w'.cell? ⟨gb741, 0, none⟩ = some (.int .i64 a0_0) ∧ w'.cell? ⟨gb741, 1, none⟩ = some (u742001) ∧ w'.cell? ⟨gb741, 2, none⟩ = some (.slice Ao12 y738.length co12) ∧ w'.cell? ⟨gb733, 0, none⟩ = some (.int .i64 a0_0) ∧ w'.cell? ⟨gb733, 1, none⟩ = some (.slice (some ad742) l0_1.length c0_1) ∧ w'.cell? ⟨gb733, 2, none⟩ = some (.slice A0_2 l0_2.length c0_2) ∧ w'.cell? (ad742.add ((x4_1).toNat * 3)) = some (.int .i64 ((rd_T90 l0_1 x4_1).f0)) ∧ w'.cell? ⟨(ad742.add ((x4_1).toNat * 3)).block, (ad742.add ((x4_1).toNat * 3)).off + 1, none⟩ = some (.int .i64 ((rd_T90 l0_1 x4_1).f1)) ∧ w'.cell? ⟨(ad742.add ((x4_1).toNat * 3)).block, (ad742.add ((x4_1).toNat * 3)).off + 2, none⟩ = some (.int .u64 ((rd_T90 l0_1 x4_1).f2)) ∧ w'.cell? (ad742.add ((x4_1).toNat * 3)) = some (.int .i64 ((rd_T90 l0_1 x4_1).f0)) ∧ w'.cell? ⟨(ad742.add ((x4_1).toNat * 3)).block, (ad742.add ((x4_1).toNat * 3)).off + 1, none⟩ = some (.int .i64 ((rd_T90 l0_1 x4_1).f1)) ∧ w'.cell? ⟨(ad742.add ((x4_1).toNat * 3)).block, (ad742.add ((x4_1).toNat * 3)).off + 2, none⟩ = some (.int .u64 ((rd_T90 l0_1 x4_1).f2)) ∧ w'.cell? (ad742.add ((x4_1).toNat * 3)) = some (.int .i64 ((rd_T90 l0_1 x4_1).f0)) ∧ w'.cell? ⟨(ad742.add ((x4_1).toNat * 3)).block, (ad742.add ((x4_1).toNat * 3)).off + 1, none⟩ = some (.int .i64 ((rd_T90 l0_1 x4_1).f1)) ∧ w'.cell? ⟨(ad742.add ((x4_1).toNat * 3)).block, (ad742.add ((x4_1).toNat * 3)).off + 2, none⟩ = some (.int .u64 ((rd_T90 l0_1 x4_1).f2))) (ds := [24]) (mk_ 0 25) (by kernel_rfl) rfl rfl ⟨(blk_cell BK741.out 0).trans rfl, (blk_cell BK741.out 1).trans rfl, (blk_cell BK741.out 2).trans rfl, (blk_cell BK733.out 0).trans rfl, (blk_cell BK733.out 1).trans rfl, (blk_cell BK733.out 2).trans rfl, (ct HB hw742_0), (ct HB hw742_1), (ct HB hw742_2), (ct HB hw743_0), (ct HB hw743_1), (ct HB hw743_2), (ct HB hw744_0), (ct HB hw744_1), (ct HB hw744_2)⟩ (fun hHeld => ?_); refine with_tabW marchlandlaw05_To.tab5 marchlandlaw05_To.bits5 (fun HT_ HW_ => ?_)
       generalize wr.drew = w22 at HO_742001 HO_742002 BK733 BK734 BK741 HB hx742_0 hx742_1 hx742_2 hx743_0 hx743_1 hx743_2 hx744_0 hx744_1 hx744_2 hHeld ⊢
       refine pv_ 0 19 (mk_ 1 24) HT_ ?_
       refine pv_ 2 21 #[true, false, true, false, false, false, false, false, false, false, false, false, false, false, false, false, false, false, false, false, false, false, false, false, false] HT_ ?_
       refine pv_ 4 23 #[true, false, true, false, true, false, false, false, false, false, false, false, false, false, false, false, false, false, false, false, false, false, false, false, false] HT_ ?_
       refine pv_ 8 27 #[true, false, true, false, true, false, false, false, true, false, false, false, false, false, false, false, false, false, false, false, false, false, false, false, false] HT_ ?_
       refine pv_ 10 29 #[true, false, true, false, true, false, false, false, true, false, true, false, false, false, false, false, false, false, false, false, false, false, false, false, false] HT_ ?_
       refine pv_ 14 33 #[true, false, true, false, true, false, false, false, true, false, true, false, false, false, true, false, false, false, false, false, false, false, false, false, false] HT_ ?_
       refine pv_ 16 35 #[true, false, true, false, true, false, false, false, true, false, true, false, false, false, true, false, true, false, false, false, false, false, false, false, false] HT_ ?_
       refine tv_ 1 20 #[true, true, true, false, true, false, false, false, true, false, true, false, false, false, true, false, true, false, false, false, false, false, false, false, false] HT_ HW_ hHeld (hy := by rintro w' ⟨s0, s1, s2, s3, s4, s5, s6, s7, s8, s9, s10, s11, s12, s13, s14⟩; go_simp; with_reducible rfl) (h := ?_)
       refine tv_ 3 22 #[true, true, true, true, true, false, false, false, true, false, true, false, false, false, true, false, true, false, false, false, false, false, false, false, false] HT_ HW_ hHeld (hy := by rintro w' ⟨s0, s1, s2, s3, s4, s5, s6, s7, s8, s9, s10, s11, s12, s13, s14⟩; go_simp; with_reducible rfl) (h := ?_)
       refine pv_ 5 24 #[true, true, true, true, true, true, false, false, true, false, true, false, false, false, true, false, true, false, false, false, false, false, false, false, false] HT_ ?_
       refine pv_ 6 25 #[true, true, true, true, true, true, true, false, true, false, true, false, false, false, true, false, true, false, false, false, false, false, false, false, false] HT_ ?_
       refine tv_ 7 26 #[true, true, true, true, true, true, true, true, true, false, true, false, false, false, true, false, true, false, false, false, false, false, false, false, false] HT_ HW_ hHeld (hy := by rintro w' ⟨s0, s1, s2, s3, s4, s5, s6, s7, s8, s9, s10, s11, s12, s13, s14⟩; go_simp; with_reducible rfl) (h := ?_)
       refine tv_ 9 28 #[true, true, true, true, true, true, true, true, true, true, true, false, false, false, true, false, true, false, false, false, false, false, false, false, false] HT_ HW_ hHeld (hy := by rintro w' ⟨s0, s1, s2, s3, s4, s5, s6, s7, s8, s9, s10, s11, s12, s13, s14⟩; go_simp; with_reducible rfl) (h := ?_)
       refine pv_ 11 30 #[true, true, true, true, true, true, true, true, true, true, true, true, false, false, true, false, true, false, false, false, false, false, false, false, false] HT_ ?_
       refine pv_ 12 31 #[true, true, true, true, true, true, true, true, true, true, true, true, true, false, true, false, true, false, false, false, false, false, false, false, false] HT_ ?_
       refine tv_ 13 32 #[true, true, true, true, true, true, true, true, true, true, true, true, true, true, true, false, true, false, false, false, false, false, false, false, false] HT_ HW_ hHeld (hy := by rintro w' ⟨s0, s1, s2, s3, s4, s5, s6, s7, s8, s9, s10, s11, s12, s13, s14⟩; go_simp; with_reducible rfl) (h := ?_)
       refine tv_ 15 34 (mk_ 17 8) HT_ HW_ hHeld (hy := by rintro w' ⟨s0, s1, s2, s3, s4, s5, s6, s7, s8, s9, s10, s11, s12, s13, s14⟩; go_simp; with_reducible rfl) (h := ?_)
       refine pv_ 17 36 (mk_ 18 7) HT_ ?_
       refine pv_ 18 37 (mk_ 19 6) HT_ ?_
       refine tv_ 19 38 (mk_ 20 5) HT_ HW_ hHeld (hy := by rintro w' ⟨s0, s1, s2, s3, s4, s5, s6, s7, s8, s9, s10, s11, s12, s13, s14⟩; go_simp; with_reducible rfl) (h := ?_)
       refine pv_ 20 39 (mk_ 21 4) HT_ ?_
       refine one_ (i := 21) (N := some 40) (mk_ 22 3) rfl rfl (one_of HT_.out (by kernel_rfl)) (by decide) (fun K hK => ?_)
       refine value_ (w1 := ?_) (v := ?_) (by rfl) rfl ?_ ?_
       rotate_left 2
       ·go_simp
        constructor
        ·rfl
        ·rfl
       refine hK.out _ _ ⟨(blk_cell (blk_alloc BK741.out _) 0).trans rfl, (blk_cell (blk_alloc BK741.out _) 1).trans rfl, (blk_cell (blk_alloc BK741.out _) 2).trans rfl, (blk_cell (blk_alloc BK733.out _) 0).trans rfl, (blk_cell (blk_alloc BK733.out _) 1).trans rfl, (blk_cell (blk_alloc BK733.out _) 2).trans rfl, (World.cell?_alloc_lt _ _ _ (World.block_lt_of_cell? _ _ ((ct HB hw742_0)))).trans ((ct HB hw742_0)), (World.cell?_alloc_lt _ _ _ (World.block_lt_of_cell? _ _ ((ct HB hw742_1)))).trans ((ct HB hw742_1)), (World.cell?_alloc_lt _ _ _ (World.block_lt_of_cell? _ _ ((ct HB hw742_2)))).trans ((ct HB hw742_2)), (World.cell?_alloc_lt _ _ _ (World.block_lt_of_cell? _ _ ((ct HB hw743_0)))).trans ((ct HB hw743_0)), (World.cell?_alloc_lt _ _ _ (World.block_lt_of_cell? _ _ ((ct HB hw743_1)))).trans ((ct HB hw743_1)), (World.cell?_alloc_lt _ _ _ (World.block_lt_of_cell? _ _ ((ct HB hw743_2)))).trans ((ct HB hw743_2)), (World.cell?_alloc_lt _ _ _ (World.block_lt_of_cell? _ _ ((ct HB hw744_0)))).trans ((ct HB hw744_0)), (World.cell?_alloc_lt _ _ _ (World.block_lt_of_cell? _ _ ((ct HB hw744_1)))).trans ((ct HB hw744_1)), (World.cell?_alloc_lt _ _ _ (World.block_lt_of_cell? _ _ ((ct HB hw744_2)))).trans ((ct HB hw744_2))⟩ (fun hHeld => ?_)
       clear hK K
       refine norm_ (a' := ?_) ?_ ?_
       rotate_left
       ·show Act.put _ (some 40) _ = _
        simp only [Act.put, List.setIfInBounds_toArray, List.set_cons_zero, List.set_cons_succ, i64_w, i32_w]
        rfl
       refine one_ (i := 22) (N := some 41) (mk_ 23 2) rfl rfl (one_of HT_.out (by kernel_rfl)) (by decide) (fun K hK => ?_)
       refine Kd.R_append_step k95 (w0 := w) w.heap.size (by rfl) (.tmp 20) (.tmp 40) 62 95 (.agg #[(.int .i64 0), (.int .i64 0), (.int .u64 0)]) 24 rfl Try.underlying62 info95 rfl (by decide) (by omega) u742001 x742001_1 (⟨(rd_T90 l0_1 x4_1).f0, (rd_T90 l0_1 x4_1).f1, (rd_T90 l0_1 x4_1).f2⟩ : S95) [.int .i64 ((rd_T90 l0_1 x4_1).f0), .int .i64 ((rd_T90 l0_1 x4_1).f1), .int .u64 ((rd_T90 l0_1 x4_1).f2)] (fun _ => True) (fun _ => False) rfl rfl ?aP (fun _ hk => hk.elim) ?aF ?aO ?aB ?aS ?aL ?_
       (case aP => exact k95_mkM _ _ _ (⟨(rd_T90 l0_1 x4_1).f0, (rd_T90 l0_1 x4_1).f1, (rd_T90 l0_1 x4_1).f2⟩ : S95))
       (case aB => exact (bn3 HB GE733 GE734 GE741))
       (case aF => exact (fun _ _ => trivial))
       (case aO => exact (rn HO_742001))
       (case aS => exact (below_size (bn3 HB GE733 GE734 GE741)))
       (case aL => have := LMc18.out; omega)
       intro v746 w23 ho hb hg hat
       rw [← Ny745.out] at ho
       have n0_ := Aside0.mk (Kd.R_over' (rn HO_742002) (Kd.R_typed (rn HO_742001)) (by decide) hg)
       have n1_ := Aside0.mk (blk_grown (g := gb733) (o := .cells #[.int .i64 a0_0, .slice (some ad742) l0_1.length c0_1, .slice A0_2 l0_2.length c0_2] 58 (0, 0)) (bk BK733) hg (Kd.R_ne HO_742001.out BK733.out (by decide)))
       have n2_ := Aside0.mk (blk_grown (g := gb734) (o := .cells #[.int .i64 0, .slice none 0 0, .slice none 0 0] 64 (0, 0)) (bk BK734) hg (Kd.R_ne HO_742001.out BK734.out (by decide)))
       have n3_ := Aside0.mk (blk_grown (g := gb741) (o := .cells #[.int .i64 a0_0, u742001, .slice Ao12 y738.length co12] 64 (0, 0)) (bk BK741) hg (Kd.R_ne HO_742001.out BK741.out (by decide)))
       have n4_ := Aside0.mk (hb)
       have n5_ := Aside0.mk (ho)
       clear HO_742002
       clear BK733
       clear BK734
       clear BK741
       clear HB
       clear HO_742001
       have HO_742002 := n0_
       have BK733 := n1_
       have BK734 := n2_
       have BK741 := n3_
       have HB := n4_
       have HO747 := n5_
       clear n0_ n1_ n2_ n3_ n4_ n5_
       clear ho hb hg hat
       obtain ⟨Ao24, co24, eo24⟩ := Kd.R_slice HO747.out
       (first | subst eo24 | (injection eo24 with f1_ f2_ f3_; have f4_ := f1_.symm; have f5_ := f3_.symm; clear f1_ f2_ f3_; subst f4_; subst f5_))
       refine hK.out _ _ ⟨(blk_cell BK741.out 0).trans rfl, (blk_cell BK741.out 1).trans rfl, (blk_cell BK741.out 2).trans rfl, (blk_cell BK733.out 0).trans rfl, (blk_cell BK733.out 1).trans rfl, (blk_cell BK733.out 2).trans rfl, (ct HB hw742_0), (ct HB hw742_1), (ct HB hw742_2), (ct HB hw743_0), (ct HB hw743_1), (ct HB hw743_2), (ct HB hw744_0), (ct HB hw744_1), (ct HB hw744_2)⟩ (fun hHeld => ?_)
       clear hK K
       refine norm_ (a' := ?_) ?_ ?_
       rotate_left
       ·show Act.put _ (some 41) _ = _
        simp only [Act.put, List.setIfInBounds_toArray, List.set_cons_zero, List.set_cons_succ, i64_w, i32_w]
        rfl
       refine pv_ 23 42 (mk_ 24 1) HT_ ?_
       refine last_ (i := 24) (N := none) (mk_ 25 0) rfl rfl (one_of HT_.out (by kernel_rfl)) (by decide) (fun K hK => ?_)
       have hs25 : w23.cell? ⟨gb741, 1, none⟩ = some (u742001) := (blk_cell BK741.out 1).trans rfl
       have hfs25 := blk_frozen BK741.out 1
       have hns25_0 := NB733_741.out
       have hns25_1 := NB734_741.out
       have hms25_0 := NB741_733.out
       have hms25_1 := NB741_734.out
       refine skip_ (w1 := ?_) (by rfl) rfl ?_ ?_
       rotate_left
       ·go_simp
        rfl
       refine hK.out _ _ ?_
       clear hK K
       refine done_ (done_of HT_.out (by kernel_rfl)) ?_
       try go_wp2
       go_roundg k1
       case measure => have := HK1.out; omega
       case rel => exact ⟨(wrap64 (x4_1 + 1)), (y745), (.slice Ao24 y745.length co24), (by first | rfl | (simp; done) | (simp [*]; done)), H', ⟨by have := HK1.out; omega⟩, ⟨by (with_reducible repeat (first | apply Kd.R_alloc | apply Kd.R_drewN | apply Kd.R_drew)); exact Kd.R_mono (Kd.R_far (p := ⟨gb741, 1, none⟩) (Kd.R_types HO747.out BK741.out (by decide)) (fun _ hk => hk.2) (.slice Ao24 y745.length co24)) (fun _ hk => trivial)⟩, ⟨by (with_reducible repeat (first | apply Kd.R_alloc | apply Kd.R_drewN | apply Kd.R_drew)); exact Kd.R_mono (Kd.R_far (p := ⟨gb741, 1, none⟩) (Kd.R_types HO_742002.out BK741.out (by decide)) (fun _ hk => hk.2) (.slice Ao24 y745.length co24)) (fun _ hk => trivial)⟩, ⟨by (with_reducible repeat (first | refine blk_drewN ?_ _ | refine blk_drew ?_ | refine blk_alloc ?_ _)); refine blk_far ?_ NB733_741.out _; (with_reducible repeat (first | refine blk_drewN ?_ _ | refine blk_drew ?_ | refine blk_alloc ?_ _)); exact BK733.out⟩, ⟨by (with_reducible repeat (first | refine blk_drewN ?_ _ | refine blk_drew ?_ | refine blk_alloc ?_ _)); refine blk_far ?_ NB734_741.out _; (with_reducible repeat (first | refine blk_drewN ?_ _ | refine blk_drew ?_ | refine blk_alloc ?_ _)); exact BK734.out⟩, ⟨by (with_reducible repeat (first | refine blk_drewN ?_ _ | refine blk_drew ?_ | refine blk_alloc ?_ _)); refine blk_put (cs := #[.int .i64 a0_0, u742001, .slice Ao12 y738.length co12]) ?_ 1 _ rfl; (with_reducible repeat (first | refine blk_drewN ?_ _ | refine blk_drew ?_ | refine blk_alloc ?_ _)); exact BK741.out⟩, ⟨bn3 HB GE733 GE734 GE741⟩⟩
      ·rw [if_neg c18] at H
       exact absurd H (by simp)
     ·rw [if_neg c17] at H
      exact absurd H (by simp)
    ·rw [if_neg c16] at H
     have c16b0 : decide (x4_1 < (l0_1.length : Int)) = false := decide_eq_false c16
     clear c16
     simp only [Option.some.injEq, Prod.mk.injEq] at H
     obtain ⟨rfl, rfl, rfl⟩ := H
     have hnb26 := NB733_734.out
     have hnc26 := NB734_733.out
     have hnb27 := NB733_741.out
     have hnc27 := NB741_733.out
     have hcz28_0 : wr.cell? ⟨gb733, 0, none⟩ = some (.int .i64 a0_0) := (blk_cell BK733.out 0).trans rfl
     have hcz28_1 : wr.cell? ⟨gb733, 1, none⟩ = some (.slice A0_1 l0_1.length c0_1) := (blk_cell BK733.out 1).trans rfl
     have hcz28_2 : wr.cell? ⟨gb733, 2, none⟩ = some (.slice A0_2 l0_2.length c0_2) := (blk_cell BK733.out 2).trans rfl
     have hfz28_0 := blk_frozen BK733.out 0
     have hfz28_1 := blk_frozen BK733.out 1
     have hfz28_2 := blk_frozen BK733.out 2
     have hnb29 := NB741_734.out
     have hnc29 := NB734_741.out
     have hcz30_0 : wr.cell? ⟨gb741, 0, none⟩ = some (.int .i64 a0_0) := (blk_cell BK741.out 0).trans rfl
     have hcz30_1 : wr.cell? ⟨gb741, 1, none⟩ = some (u742001) := (blk_cell BK741.out 1).trans rfl
     have hcz30_2 : wr.cell? ⟨gb741, 2, none⟩ = some (.slice Ao12 y738.length co12) := (blk_cell BK741.out 2).trans rfl
     have hfz30_0 := blk_frozen BK741.out 0
     have hfz30_1 := blk_frozen BK741.out 1
     have hfz30_2 := blk_frozen BK741.out 2
     have hcz31_0 : wr.cell? ⟨gb734, 0, none⟩ = some (.int .i64 0) := (blk_cell BK734.out 0).trans rfl
     have hcz31_1 : wr.cell? ⟨gb734, 1, none⟩ = some (.slice none 0 0) := (blk_cell BK734.out 1).trans rfl
     have hcz31_2 : wr.cell? ⟨gb734, 2, none⟩ = some (.slice none 0 0) := (blk_cell BK734.out 2).trans rfl
     have hfz31_0 := blk_frozen BK734.out 0
     have hfz31_1 := blk_frozen BK734.out 1
     have hfz31_2 := blk_frozen BK734.out 2
     obtain ⟨Ao32, co32, eo32⟩ := Kd.R_slice HO_742001.out
     subst eo32
     go_wp2
     refine bodyPost_ret (results_cell_row rfl _ _ gb734 64 #[.int .i64 a0_0, .slice Ao32 x742001_1.length co32, .slice Ao12 y738.length co12] (0, 0) _ rfl (by (with_reducible repeat (first | refine blk_drewN ?_ _ | refine blk_drew ?_ | refine blk_alloc ?_ _)); refine blk_put (cs := #[.int .i64 a0_0, .slice Ao32 x742001_1.length co32, .slice none 0 0]) ?_ 2 _ rfl; (with_reducible repeat (first | refine blk_drewN ?_ _ | refine blk_drew ?_ | refine blk_alloc ?_ _)); refine blk_put (cs := #[.int .i64 a0_0, .slice none 0 0, .slice none 0 0]) ?_ 1 _ rfl; (with_reducible repeat (first | refine blk_drewN ?_ _ | refine blk_drew ?_ | refine blk_alloc ?_ _)); refine blk_put (cs := #[.int .i64 0, .slice none 0 0, .slice none 0 0]) ?_ 0 _ rfl; (with_reducible repeat (first | refine blk_drewN ?_ _ | refine blk_drew ?_ | refine blk_alloc ?_ _)); exact BK734.out) Try.underlying64 rfl (by kernel_rfl)) rfl ?_
     exact ⟨_, _, by first | rfl | (simp [errW_none, errW_some] <;> rfl) | (simp [*, errW_none, errW_some] <;> rfl), by (with_reducible repeat (first | apply Kd.R_alloc | apply Kd.R_drewN | apply Kd.R_drew)); exact Kd.R_mono (Kd.R_far (p := ⟨gb734, 2, none⟩) (Kd.R_far (p := ⟨gb734, 1, none⟩) (Kd.R_far (p := ⟨gb734, 0, none⟩) (Kd.R_types HO_742001.out BK734.out (by decide)) (fun _ hk => hk.2) (.int .i64 a0_0)) (fun _ hk => hk.2) (.slice Ao32 x742001_1.length co32)) (fun _ hk => hk.2) (.slice Ao12 y738.length co12)) (fun _ hk => trivial), by (with_reducible repeat (first | apply Kd.R_alloc | apply Kd.R_drewN | apply Kd.R_drew)); exact Kd.R_mono (Kd.R_far (p := ⟨gb734, 2, none⟩) (Kd.R_far (p := ⟨gb734, 1, none⟩) (Kd.R_far (p := ⟨gb734, 0, none⟩) (Kd.R_types HO_742002.out BK734.out (by decide)) (fun _ hk => hk.2) (.int .i64 a0_0)) (fun _ hk => hk.2) (.slice Ao32 x742001_1.length co32)) (fun _ hk => hk.2) (.slice Ao12 y738.length co12)) (fun _ hk => trivial), bn3 HB GE733 GE734 GE741⟩
 ·rw [if_neg c2] at H
  exact absurd H (by simp)
end Go.Proofs.Ytgeldmhgbnamcaa.P
end
section
-- Printed by the session's own turn of the print (wip/tools/print2.sh): some callees are proved by hand.
namespace Go.Proofs.Ytgeldmhgbnamcaa.P
open Go.RowKit Go.Proofs.YtgeldmhgbnamcaaW.PrintWords Go.Proofs.YtgeldmhgbnamcaaW.PrintLast Go.Proofs.YtgeldmhgbnamcaaW.PrintMore
attribute [local go_sem] max2_int min2_int max_two min_two max_three min_three max_four min_four   -- for this text's walks alone
set_option linter.unusedVariables false
set_option linter.unusedSimpArgs false
/-! ### bag_Least: function 30 -/
def bag_Least.l0 : Nat → Int → List (S50) → Int → Int → Option (Int)
 | 0, _, _, _, _ => none
 | k + 1, x1, x7, x8, x9 => if x9 < x8 then (if 0 ≤ x9 then (if x9 < (x7.length : Int) then (if ((rd_T50 x7 x9).f0) = x1 then (some ((rd_T50 x7 x9).f1)) else (bag_Least.l0 k x1 x7 x8 (wrap64 (x9 + 1)))) else (none)) else (none)) else (some 18446744073709551615)
def bag_Least.f (k : Nat) (l0 : List (S50)) (a1 : Int) : Option (Int) := bag_Least.l0 k a1 l0 (l0.length : Int) 0
set_option maxHeartbeats 8000000 in
set_option maxRecDepth 100000 in
theorem bag_Least.calls (k : Nat) (A0 : Option Addr) (c0 : Nat) (l0 : List (S50)) (a1 : Int) (r : Int) (w : World) (hr0 : Kd.C k50 w A0 l0.length l0) (hc0 : l0.length ≤ c0) (h : bag_Least.f k l0 a1 = some r) :
  Calls Try.prog 30 #[.slice A0 l0.length c0, .int .i64 a1] w fun e w' => e = .returned (.int .u64 r) ∧ Below w.heap.size w w' := by
 have hu50 := Try.underlying50
 have HR0 := Aside0.mk hr0
 have HC0 := Aside0.mk hc0
 clear hr0 hc0
 have HB := Aside0.mk (Below.refl w.heap.size w)
 have H : (bag_Least.l0 k a1 l0 (l0.length : Int) 0) = some r := h
 clear h
 have H' := Aside0.mk H
 clear H
 go_enter Try.func30, Try.ntmps30
 go_wp2
 go_loopg [9] k (fun kq v9 w' => ∃ (x9_1 : Int), v9 = .int .i64 x9_1 ∧ Aside0 (bag_Least.l0 kq a1 l0 (l0.length : Int) x9_1 = some r) ∧ Aside0 (kq ≤ k) ∧ Aside0 (Below w.heap.size w w'))
 case atStart => exact ⟨(0), (by first | rfl | (simp; done) | (simp [*]; done)), H', ⟨Nat.le_refl _⟩, ⟨bn HB⟩⟩
 case round =>
  clear H'
  (try clear p2)
  obtain ⟨x9_1, rfl, HA, HK1, HB⟩ := hrel
  cases gk with
  | zero => exact absurd HA.out (by simp [bag_Least.l0])
  | succ k1 =>
   have H := HA.out
   clear HA
   simp only [bag_Least.l0] at H
   by_cases c3 : x9_1 < (l0.length : Int)
   ·rw [if_pos c3] at H
    have c3b0 : decide (x9_1 < (l0.length : Int)) = true := decide_eq_true c3
    clear c3
    by_cases c4 : 0 ≤ x9_1
    ·rw [if_pos c4] at H
     have c4b0 : decide (0 ≤ x9_1) = true := decide_eq_true c4
     clear c4
     by_cases c5 : x9_1 < (l0.length : Int)
     ·rw [if_pos c5] at H
      have c5b0 : decide (x9_1 < (l0.length : Int)) = true := decide_eq_true c5
      clear c5
      by_cases c6 : ((rd_T50 l0 x9_1).f0) = a1
      ·rw [if_pos c6] at H
       have c6b0 : (((rd_T50 l0 x9_1).f0) == a1) = true := beq_iff_eq.mpr c6
       have c6b1 : (((rd_T50 l0 x9_1).f0) != a1) = false := bne_eq_false_iff_eq.mpr c6
       clear c6
       obtain rfl := Option.some.inj H
       have p392 : 0 ≤ (x9_1 : Int) := of_decide_eq_true (by assumption)
       have q392 : x9_1 < (l0.length : Int) := of_decide_eq_true (by assumption)
       obtain ⟨ad392, e392, hx392_0, hx392_1, hx392_2⟩ := at_T50 HR0.out x9_1 p392 q392
       cases e392
       replace hx392_0 := ct HB hx392_0
       replace hx392_1 := ct HB hx392_1
       replace hx392_2 := ct HB hx392_2
       replace p392 := eq_true p392
       replace q392 := eq_true q392
       go_wp2_with (first | ((with_reducible refine gate_dst (N := 6) rfl ?_); refine box_event ?hg (N := 6) ?hd (cs := #[.int .i64 0, .int .u64 0, .int .i64 0]) (t := 50) ?hr ?_; (case hd => rfl); (case hg => rfl); (case hr => first | (go_simp; done) | (go_simp; rfl)); intro gb393 hg w7 hbox hb; have n1_ := Aside0.mk (hbox); have n2_ := Aside0.mk ((by rw [hg]; exact (below_size (bn HB)) : w.heap.size ≤ gb393)); have n3_ := Aside0.mk ((by rw [hg]; exact (below_size (bn HB)) : w.heap.size ≤ gb393)); replace HB := bb HB hb; have BK393 := n1_; have GW393 := n2_; have GE393 := n3_; clear n1_ n2_ n3_; clear hb hbox hg; have hcz8_0 : w7.cell? ⟨gb393, 0, none⟩ = some (.int .i64 0) := (blk_cell BK393.out 0).trans rfl; have hcz8_1 : w7.cell? ⟨gb393, 1, none⟩ = some (.int .u64 0) := (blk_cell BK393.out 1).trans rfl; have hcz8_2 : w7.cell? ⟨gb393, 2, none⟩ = some (.int .i64 0) := (blk_cell BK393.out 2).trans rfl; have hfz8_0 := blk_frozen BK393.out 0; have hfz8_1 := blk_frozen BK393.out 1; have hfz8_2 := blk_frozen BK393.out 2))
       go_ret
       exact ⟨by first | rfl | (simp [errW_none, errW_some] <;> rfl) | (simp [*, errW_none, errW_some] <;> rfl), bn1 HB GE393⟩
      ·rw [if_neg c6] at H
       have c6b0 : (((rd_T50 l0 x9_1).f0) == a1) = false := beq_eq_false_iff_ne.mpr c6
       have c6b1 : (((rd_T50 l0 x9_1).f0) != a1) = true := bne_iff_ne.mpr c6
       have H' := Aside0.mk H
       clear H
       have p392 : 0 ≤ (x9_1 : Int) := of_decide_eq_true (by assumption)
       have q392 : x9_1 < (l0.length : Int) := of_decide_eq_true (by assumption)
       obtain ⟨ad392, e392, hx392_0, hx392_1, hx392_2⟩ := at_T50 HR0.out x9_1 p392 q392
       cases e392
       replace hx392_0 := ct HB hx392_0
       replace hx392_1 := ct HB hx392_1
       replace hx392_2 := ct HB hx392_2
       replace p392 := eq_true p392
       replace q392 := eq_true q392
       go_wp2_with (first | ((with_reducible refine gate_dst (N := 6) rfl ?_); refine box_event ?hg (N := 6) ?hd (cs := #[.int .i64 0, .int .u64 0, .int .i64 0]) (t := 50) ?hr ?_; (case hd => rfl); (case hg => rfl); (case hr => first | (go_simp; done) | (go_simp; rfl)); intro gb393 hg w9 hbox hb; have n1_ := Aside0.mk (hbox); have n2_ := Aside0.mk ((by rw [hg]; exact (below_size (bn HB)) : w.heap.size ≤ gb393)); have n3_ := Aside0.mk ((by rw [hg]; exact (below_size (bn HB)) : w.heap.size ≤ gb393)); replace HB := bb HB hb; have BK393 := n1_; have GW393 := n2_; have GE393 := n3_; clear n1_ n2_ n3_; clear hb hbox hg; have hcz10_0 : w9.cell? ⟨gb393, 0, none⟩ = some (.int .i64 0) := (blk_cell BK393.out 0).trans rfl; have hcz10_1 : w9.cell? ⟨gb393, 1, none⟩ = some (.int .u64 0) := (blk_cell BK393.out 1).trans rfl; have hcz10_2 : w9.cell? ⟨gb393, 2, none⟩ = some (.int .i64 0) := (blk_cell BK393.out 2).trans rfl; have hfz10_0 := blk_frozen BK393.out 0; have hfz10_1 := blk_frozen BK393.out 1; have hfz10_2 := blk_frozen BK393.out 2))
       go_roundg k1
       case measure => have := HK1.out; omega
       case rel => exact ⟨(wrap64 (x9_1 + 1)), (by first | rfl | (simp; done) | (simp [*]; done)), H', ⟨by have := HK1.out; omega⟩, ⟨bn1 HB GE393⟩⟩
     ·rw [if_neg c5] at H
      exact absurd H (by simp)
    ·rw [if_neg c4] at H
     exact absurd H (by simp)
   ·rw [if_neg c3] at H
    have c3b0 : decide (x9_1 < (l0.length : Int)) = false := decide_eq_false c3
    clear c3
    obtain rfl := Option.some.inj H
    go_wp2
    go_ret
    exact ⟨by first | rfl | (simp [errW_none, errW_some] <;> rfl) | (simp [*, errW_none, errW_some] <;> rfl), bn HB⟩
end Go.Proofs.Ytgeldmhgbnamcaa.P
end
section
-- Printed by the session's own turn of the print (wip/tools/print2.sh): some callees are proved by hand.
namespace Go.Proofs.Ytgeldmhgbnamcaa.P
open Go.RowKit Go.Proofs.YtgeldmhgbnamcaaW.PrintWords Go.Proofs.YtgeldmhgbnamcaaW.PrintLast Go.Proofs.YtgeldmhgbnamcaaW.PrintMore
attribute [local go_sem] max2_int min2_int max_two min_two max_three min_three max_four min_four   -- for this text's walks alone
set_option linter.unusedVariables false
set_option linter.unusedSimpArgs false
/-! ### front_Of: function 43 -/
mutual
def front_Of.l0 : Nat → List (List Int) → List (S50) → List Int → Int → Int → Option (List Int)
 | 0, _, _, _, _, _ => none
 | k + 1, x0, x1, x5, x15, x16 => if x16 < x15 then ((bag_Least.f k x1 x16).bind fun t756 => (if 0 ≤ x16 then (if x16 < (x0.length : Int) then (front_Of.l1 k x0 x1 x5 t756 x15 x16 (rd_L7 x0 x16) ((rd_L7 x0 x16).length : Int) 0) else (none)) else (none))) else (some x5)
def front_Of.l1 : Nat → List (List Int) → List (S50) → List Int → Int → Int → Int → List Int → Int → Int → Option (List Int)
 | 0, _, _, _, _, _, _, _, _, _ => none
 | k + 1, x0, x1, x5, x7, x15, x16, x25, x26, x27 => if x27 < x26 then (if 0 ≤ x27 then (if x27 < (x25.length : Int) then (if x27 < (x5.length : Int) then ((stamp_Plus.f x7 (rd x25 x27)).bind fun t760 => (front_Of.l1 k x0 x1 (x5.set (x27 : Int).toNat (mn (rd x5 x27) t760)) x7 x15 x16 x25 x26 (wrap64 (x27 + 1)))) else (none)) else (none)) else (none)) else (front_Of.l0 k x0 x1 x5 x15 (wrap64 (x16 + 1)))
end
def front_Of.f (k : Nat) (l0 : List (List Int)) (l1 : List (S50)) : Option (List Int) := (slices_Repeat.f (([18446744073709551615] : List Int)) (l0.length : Int)).bind fun t753 => (front_Of.l0 k l0 l1 t753 (l0.length : Int) 0)
def front_Of.T9 : Bool × List (List Nat × List Nat) := (true, [([], []), ([], []), ([], []), ([], []), ([2, 3], [2, 3]), ([4], [4]), ([], []), ([], []), ([6, 7], [6, 7]), ([5, 8], [5, 8]), ([0, 1, 0, 1, 2, 3, 4, 5, 6, 7, 8, 9], [0, 1]), ([10, 9, 8, 0, 1, 2, 3, 4, 5, 6, 7, 8, 9], [9, 10])])
def front_Of.B9 : List Nat := [0, 0, 0, 0, 12, 28, 0, 0, 192, 508, 1023, 2047]
theorem front_Of.tab9 : rtab .any (opsOf Try.f43 9) = front_Of.T9 := by kernel_rfl
theorem front_Of.bits9 : waitsOk front_Of.T9.2 front_Of.B9 = true := by kernel_rfl
set_option maxHeartbeats 8000000 in
set_option maxRecDepth 100000 in
theorem front_Of.calls (k : Nat) (A0 : Option Addr) (c0 : Nat) (l0 : List (List Int)) (A1 : Option Addr) (c1 : Nat) (l1 : List (S50)) (r : List Int) (w : World) (hr0 : Kd.C (Kd.slice 38 (Kd.int .u64)) w A0 l0.length l0) (hc0 : l0.length ≤ c0) (hr1 : Kd.C k50 w A1 l1.length l1) (hc1 : l1.length ≤ c1) (h : front_Of.f k l0 l1 = some r) :
  Calls Try.prog 43 #[.slice A0 l0.length c0, .slice A1 l1.length c1] w fun e w' => ∃ v0_ : Value, e = .returned (v0_) ∧ Kd.R (Kd.int .u64) 38 w' w.heap.size (fun _ => True) v0_ r ∧ Below w.heap.size w w' := by
 have HR0 := Aside0.mk hr0
 have HC0 := Aside0.mk hc0
 clear hr0 hc0
 have HR1 := Aside0.mk hr1
 have HC1 := Aside0.mk hc1
 clear hr1 hc1
 have HB := Aside0.mk (Below.refl w.heap.size w)
 have H : ((slices_Repeat.f (([18446744073709551615] : List Int)) (l0.length : Int)).bind fun t753 => (front_Of.l0 k l0 l1 t753 (l0.length : Int) 0)) = some r := h
 clear h
 obtain ⟨y750, hy750⟩ : ∃ y_ : List Int, y_ = (([18446744073709551615] : List Int)) := ⟨_, rfl⟩
 replace H : ((slices_Repeat.f y750 (l0.length : Int)).bind fun t753 => (front_Of.l0 k l0 l1 t753 (l0.length : Int) 0)) = some r := by first | (rw [hy750]; with_reducible exact H) | (have H2_ := (Option.bind_some _ _).symm.trans H; rw [hy750]; with_reducible exact H2_) | (have H2_ := (Option.bind_some _ _).symm.trans H; with_reducible exact H2_) | with_reducible exact H | (rw [hy750]; exact H) | exact H
 have Ny750 := Aside0.mk hy750
 clear hy750
 replace H := Option.bind_eq_some_iff.mp H
 obtain ⟨t753, A30, H⟩ := H
 replace H : (front_Of.l0 k l0 l1 t753 (l0.length : Int) 0) = some r := H
 have A3 := Aside0.mk A30
 clear A30
 have H' := Aside0.mk H
 clear H
 go_enter Try.func43, Try.ntmps43
 go_wp2_with (first | ((with_reducible refine gate_dst (N := 10) rfl ?_); refine Kd.R_lit (Kd.int .u64) _ 38 ?hg (N := 10) ?hd (xs := ([18446744073709551615] : List Int)) (inner := [.int .u64 18446744073709551615]) (ok := fun _ => True) (okp := fun _ => True) ?hr ?hp (fun _ hk => hk) trivial (Below.refl _ _) (Nat.le_refl _) (by simp) ?_; (case hd => rfl); (case hg => rfl); (case hr => first | (go_simp; done) | (go_simp; rfl)); (case hp => exact (Reps.one (show Kd.M (Kd.int .u64) _ _ _ 18446744073709551615 [.int .u64 18446744073709551615] from rfl) (Reps.none _ _))); intro v751 w4 ho5 hb hg_ hnew_; clear hg_ hnew_; (first | rw [← Ny750.out] at ho5 | (simp only [Int.reduceToNat] at ho5; rw [← Ny750.out] at ho5)); have n0_ := Aside0.mk (Kd.R_lower ho5 (below_size (bn HB))); have HO752 := n0_; replace HB := bb HB hb; clear n0_; clear hb ho5; obtain ⟨Ao6, co6, eo6⟩ := Kd.R_slice HO752.out; subst eo6) | ((with_reducible refine gate_callee (f := 69) rfl ?_); refine gl (some 13) Try.func69 #[.slice Ao6 y750.length co6, .int .i64 (l0.length : Int)] ?_; (with_reducible refine (slices_Repeat.calls _ _ y750 (l0.length : Int) t753 _ ?side1 ?side2 A3.out).mono ?_); (case side1 => exact rc HO752); (case side2 => exact rs HO752); rintro e w7 ⟨v754, rfl, ho0, hb⟩; refine ⟨_, rfl, ?_⟩; have n1_ := Aside0.mk (Kd.R_lower (Kd.R_new' ho0 (Kd.R_lt (rn HO752))) (below_size (bn HB))); replace HO752 := rl HO752 (Kd.R_base ho0) hb; have HO755 := n1_; replace HB := bb HB hb; clear n1_; (try clear hb); (try clear ho0)))
 go_loopg [16] k (fun kq v16 w' => ∃ (x5_1 : List Int) (x16_1 : Int), v16 = .int .i64 x16_1 ∧ Aside0 (front_Of.l0 kq l0 l1 x5_1 (l0.length : Int) x16_1 = some r) ∧ Aside0 (kq ≤ k) ∧ Aside0 (Kd.R (Kd.int .u64) 38 w' w.heap.size (fun _ => True) v754 x5_1) ∧ Aside0 (Below w.heap.size w w'))
 case atStart => exact ⟨(t753), (0), (by first | rfl | (simp; done) | (simp [*]; done)), H', ⟨Nat.le_refl _⟩, ⟨by (with_reducible repeat (first | apply Kd.R_alloc | apply Kd.R_drewN | apply Kd.R_drew)); exact Kd.R_mono HO755.out (fun _ hk => trivial)⟩, ⟨bn HB⟩⟩
 case round =>
  clear H'
  (try clear c1); (try clear p2); (try clear c4); (try clear c6)
  obtain ⟨x5_1, x16_1, rfl, HA, HK1, HO_5, HB⟩ := hrel
  cases gk with
  | zero => exact absurd HA.out (by simp [front_Of.l0])
  | succ k1 =>
   have H := HA.out
   clear HA
   simp only [front_Of.l0] at H
   by_cases c8 : x16_1 < (l0.length : Int)
   ·rw [if_pos c8] at H
    have c8b0 : decide (x16_1 < (l0.length : Int)) = true := decide_eq_true c8
    clear c8
    replace H := Option.bind_eq_some_iff.mp H
    obtain ⟨t756, A90, H⟩ := H
    replace H : (if 0 ≤ x16_1 then (if x16_1 < (l0.length : Int) then (front_Of.l1 k1 l0 l1 x5_1 t756 (l0.length : Int) x16_1 (rd_L7 l0 x16_1) ((rd_L7 l0 x16_1).length : Int) 0) else (none)) else (none)) = some r := H
    have A9 := Aside0.mk A90
    clear A90
    by_cases c10 : 0 ≤ x16_1
    ·rw [if_pos c10] at H
     have c10b0 : decide (0 ≤ x16_1) = true := decide_eq_true c10
     clear c10
     by_cases c11 : x16_1 < (l0.length : Int)
     ·rw [if_pos c11] at H
      have c11b0 : decide (x16_1 < (l0.length : Int)) = true := decide_eq_true c11
      clear c11
      have H' := Aside0.mk H
      clear H
      go_wp2_with (first | ((with_reducible refine gate_callee (f := 30) rfl ?_); refine gl (some 21) Try.func30 #[.slice A1 l1.length c1, .int .i64 x16_1] ?_; (with_reducible refine (bag_Least.calls k1 _ _ l1 x16_1 t756 _ ?side1 ?side2 A9.out).mono ?_); (case side1 => repeat (first | exact (Kd.C_below HR1.out HB.out) | (with_reducible refine Kd.C_alloc ?_ _) | (with_reducible refine Kd.C_drewN ?_ _) | (with_reducible refine Kd.C_drew ?_))); (case side2 => exact HC1.out); rintro e w12 ⟨rfl, hb⟩; refine ⟨_, rfl, ?_⟩; replace HO_5 := rb HO_5 hb; replace HB := bb HB hb; (try clear hb); have p757 : 0 ≤ (x16_1 : Int) := of_decide_eq_true (by assumption); have q757 : x16_1 < (l0.length : Int) := of_decide_eq_true (by assumption); obtain ⟨ad757, A757_0, c757_0, e757, hx757_0, hl757_0, hi757_0⟩ := at_L7 HR0.out x16_1 p757 q757; cases e757; replace hx757_0 := ct HB hx757_0; have HR757_0 := Aside0.mk hi757_0; have HC757_0 := Aside0.mk hl757_0; clear hi757_0 hl757_0; replace p757 := eq_true p757; replace q757 := eq_true q757))
      go_loopg [27] k1 (fun kq v27 w' => ∃ (x5_2 : List Int) (x27_2 : Int), v27 = .int .i64 x27_2 ∧ Aside0 (front_Of.l1 kq l0 l1 x5_2 t756 (l0.length : Int) x16_1 (rd_L7 l0 x16_1) ((rd_L7 l0 x16_1).length : Int) x27_2 = some r) ∧ Aside0 (kq ≤ k1) ∧ Aside0 (Kd.R (Kd.int .u64) 38 w' w.heap.size (fun _ => True) v754 x5_2) ∧ Aside0 (Below w.heap.size w w'))
      case atStart => exact ⟨(x5_1), (0), (by first | rfl | (simp; done) | (simp [*]; done)), H', ⟨Nat.le_refl _⟩, ⟨rn HO_5⟩, ⟨bn HB⟩⟩
      case round =>
       clear H'
       (try clear c1); (try clear p2); (try clear c3); (try clear c4); (try clear c6); (try clear c7); (try clear p7); (try clear q7); (try clear hx7); (try clear c8); (try clear c8b0); (try clear c10); (try clear c10b0); (try clear c11); (try clear c11b0); (try clear hx757_0); (try clear p2); (try clear p757)
       (try clear q757)
       obtain ⟨x5_2, x27_2, rfl, HA, HK2, HO_5, HB⟩ := hrel
       cases gk with
       | zero => exact absurd HA.out (by simp [front_Of.l1])
       | succ k2 =>
        have H := HA.out
        clear HA
        simp only [front_Of.l1] at H
        by_cases c13 : x27_2 < ((rd_L7 l0 x16_1).length : Int)
        ·rw [if_pos c13] at H
         have c13b0 : decide (x27_2 < ((rd_L7 l0 x16_1).length : Int)) = true := decide_eq_true c13
         clear c13
         by_cases c14 : 0 ≤ x27_2
         ·rw [if_pos c14] at H
          have c14b0 : decide (0 ≤ x27_2) = true := decide_eq_true c14
          clear c14
          by_cases c15 : x27_2 < ((rd_L7 l0 x16_1).length : Int)
          ·rw [if_pos c15] at H
           have c15b0 : decide (x27_2 < ((rd_L7 l0 x16_1).length : Int)) = true := decide_eq_true c15
           clear c15
           by_cases c16 : x27_2 < (x5_2.length : Int)
           ·rw [if_pos c16] at H
            have c16b0 : decide (x27_2 < (x5_2.length : Int)) = true := decide_eq_true c16
            clear c16
            replace H := Option.bind_eq_some_iff.mp H
            obtain ⟨t760, A170, H⟩ := H
            replace H : (front_Of.l1 k2 l0 l1 (x5_2.set (x27_2 : Int).toNat (mn (rd x5_2 x27_2) t760)) t756 (l0.length : Int) x16_1 (rd_L7 l0 x16_1) ((rd_L7 l0 x16_1).length : Int) (wrap64 (x27_2 + 1))) = some r := H
            have A17 := Aside0.mk A170
            clear A170
            obtain ⟨ji18, hji18⟩ : ∃ j_ : Int, (mn (rd x5_2 x27_2) t760) = j_ := ⟨_, rfl⟩
            replace H : (front_Of.l1 k2 l0 l1 (x5_2.set (x27_2 : Int).toNat (ji18)) t756 (l0.length : Int) x16_1 (rd_L7 l0 x16_1) ((rd_L7 l0 x16_1).length : Int) (wrap64 (x27_2 + 1))) = some r := by first | (rw [hji18] at H; exact H) | (simp only [hji18] at H ⊢; exact H)
            (try rw [hji18] at A17)
            have hji18_ : (if t760 < (rd x5_2 x27_2) then t760 else (rd x5_2 x27_2)) = ji18 := hji18
            obtain ⟨y761, hy761⟩ : ∃ y_ : List Int, y_ = (x5_2.set (x27_2 : Int).toNat (ji18)) := ⟨_, rfl⟩
            replace H : (front_Of.l1 k2 l0 l1 y761 t756 (l0.length : Int) x16_1 (rd_L7 l0 x16_1) ((rd_L7 l0 x16_1).length : Int) (wrap64 (x27_2 + 1))) = some r := by first | (rw [hy761]; with_reducible exact H) | (have H2_ := (Option.bind_some _ _).symm.trans H; rw [hy761]; with_reducible exact H2_) | (have H2_ := (Option.bind_some _ _).symm.trans H; with_reducible exact H2_) | with_reducible exact H | (rw [hy761]; exact H) | exact H
            have Ny761 := Aside0.mk hy761
            clear hy761
            have H' := Aside0.mk H
            clear H
            have p758 : 0 ≤ (x27_2 : Int) := of_decide_eq_true (by assumption)
            have q758 : x27_2 < ((rd_L7 l0 x16_1).length : Int) := of_decide_eq_true (by assumption)
            obtain ⟨ad758, e758, hx758_0⟩ := Kd.at_int HR757_0.out x27_2 p758 q758
            cases e758
            replace hx758_0 := ct HB hx758_0
            replace p758 := eq_true p758
            replace q758 := eq_true q758
            try go_wp2
            have n0_ := Aside0.mk (Kd.R_drew HO_5.out)
            have n1_ := Aside0.mk (below_drew1 HB.out)
            clear HO_5
            clear HB
            have HO_5 := n0_
            have HB := n1_
            clear n0_ n1_
            obtain ⟨Ao21, co21, eo21⟩ := Kd.R_slice HO_5.out
            (first | subst eo21 | (injection eo21 with f1_ f2_ f3_; have f4_ := f1_.symm; have f5_ := f3_.symm; clear f1_ f2_ f3_; subst f4_; subst f5_))
            have p759 : 0 ≤ (x27_2 : Int) := of_decide_eq_true (by assumption)
            have q759 : x27_2 < (x5_2.length : Int) := of_decide_eq_true (by assumption)
            obtain ⟨ad759, e759, hx759_0⟩ := Kd.at_int (Kd.R_reads' HO_5.out).2.2 x27_2 p759 q759
            cases e759
            replace p759 := eq_true p759
            replace q759 := eq_true q759
            refine start_ (n := 12) (S := fun w' => w'.cell? (ad759.add (x27_2).toNat) = some (.int .u64 (rd x5_2 x27_2))) (ds := [11]) (mk_ 0 12) (by kernel_rfl) rfl rfl (hx759_0) (fun hHeld => ?_); refine with_tabW front_Of.tab9 front_Of.bits9 (fun HT_ HW_ => ?_)
            generalize wr.drew = w20 at HO_5 HB hx759_0 hHeld ⊢
            refine pv_ 0 32 (mk_ 1 11) HT_ ?_
            refine pv_ 1 33 (mk_ 2 10) HT_ ?_
            refine pv_ 2 34 (mk_ 3 9) HT_ ?_
            refine pv_ 3 35 (mk_ 4 8) HT_ ?_
            refine pv_ 4 36 (mk_ 5 7) HT_ ?_
            refine pv_ 6 38 #[true, true, true, true, true, false, true, false, false, false, false, false] HT_ ?_
            refine pv_ 7 39 #[true, true, true, true, true, false, true, true, false, false, false, false] HT_ ?_
            refine take_ (i := 5) (N := some 37) (v := ?_) (a' := ?_) (mk_ 8 4) rfl rfl (take_ofW HT_.out HW_.out (by kernel_rfl)) (fun _ _ _ h => h) (Or.inl ⟨by rfl, ?_⟩) hHeld ?_ ?_
            rotate_left
            ·intro w' s0
             go_simp
             with_reducible rfl
            rotate_left
            ·simp only [Act.put, List.setIfInBounds_toArray, List.set_cons_zero, List.set_cons_succ, i64_w, i32_w]
             rfl
            refine one_ (i := 8) (N := some 40) (mk_ 9 3) rfl rfl (one_of HT_.out (by kernel_rfl)) (by decide) (fun K hK => ?_)
            refine goes_ Try.func70 (by kernel_rfl) rfl #[.int .u64 t756, .int .u64 (rd (rd_L7 l0 x16_1) x27_2)] (by rfl) rfl rfl (by (try simp only [List.map_toArray, List.map_cons, List.map_nil]); first | done | rfl | (simp only [List.length_drop, List.length_take]; rfl)) ?_
            with_reducible refine (stamp_Plus.calls t756 (rd (rd_L7 l0 x16_1) x27_2) t760 _ A17.out).mono ?_
            rintro e w' ⟨rfl, ⟨nd, rfl⟩⟩
            refine ⟨_, rfl, ?_⟩
            have p19 : 0 ≤ (x27_2 : Int) := of_decide_eq_true (by assumption)
            have q19 : (x27_2 : Int) < ((x5_2.length : Int) : Int) := of_decide_eq_true (by assumption)
            obtain ⟨go19, co19, eo19, gb19, gl19, cl19, HG19⟩ := Kd.R_form HO_5.out (by omega)
            (first | cases eo19 | (injection eo19 with ea_ en_ ec_; (first | subst ea_ | (injection ea_ with ea_; subst ea_)); subst ec_; clear en_))
            have GB19 := Aside0.mk gb19
            have GG19 := Aside0.mk HG19
            clear gb19 gl19 HG19
            (first | simp only [add_plain] at hx759_0 | skip)
            obtain ⟨hx19_0, hf19_0⟩ := Kd.R_celln 0 HO_5.out (x27_2 : Int) p19 q19
            replace p19 := eq_true p19
            replace q19 := eq_true q19
            have HP22 := Kd.R_putn HO_5.out (x27_2 : Int) ji18
            rw [← Ny761.out] at HP22
            have HQ22 := Aside0.mk HP22
            clear HP22
            refine hK.out _ _ (hHeld) (fun hHeld => ?_)
            clear hK K
            refine norm_ (a' := ?_) ?_ ?_
            rotate_left
            ·show Act.put _ (some 40) _ = _
             simp only [Act.put, List.setIfInBounds_toArray, List.set_cons_zero, List.set_cons_succ, i64_w, i32_w]
             rfl
            refine pv_ 9 41 (mk_ 10 2) HT_ ?_
            refine pv_ 10 42 (mk_ 11 1) HT_ ?_
            refine last_ (i := 11) (N := none) (mk_ 12 0) rfl rfl (one_of HT_.out (by kernel_rfl)) (by decide) (fun K hK => ?_)
            refine skip_ (w1 := ?_) (by rfl) rfl ?_ ?_
            rotate_left
            ·go_simp
             rfl
            refine hK.out _ _ ?_
            clear hK K
            refine done_ (done_of HT_.out (by kernel_rfl)) ?_
            try go_wp2
            go_roundg k2
            case measure => have := HK1.out; have := HK2.out; omega
            case rel => exact ⟨(y761), (wrap64 (x27_2 + 1)), (by first | rfl | (simp; done) | (simp [*]; done)), H', ⟨by have := HK1.out; have := HK2.out; omega⟩, ⟨rn HQ22⟩, ⟨bn1 HB GB19⟩⟩
           ·rw [if_neg c16] at H
            exact absurd H (by simp)
          ·rw [if_neg c15] at H
           exact absurd H (by simp)
         ·rw [if_neg c14] at H
          exact absurd H (by simp)
        ·rw [if_neg c13] at H
         have c13b0 : decide (x27_2 < ((rd_L7 l0 x16_1).length : Int)) = false := decide_eq_false c13
         clear c13
         have H' := Aside0.mk H
         clear H
         go_wp2
         go_roundg k2
         case measure => have := HK1.out; have := HK2.out; omega
         case rel => exact ⟨(x5_2), (wrap64 (x16_1 + 1)), (by first | rfl | (simp; done) | (simp [*]; done)), H', ⟨by have := HK1.out; have := HK2.out; omega⟩, ⟨rn HO_5⟩, ⟨bn HB⟩⟩
     ·rw [if_neg c11] at H
      exact absurd H (by simp)
    ·rw [if_neg c10] at H
     exact absurd H (by simp)
   ·rw [if_neg c8] at H
    have c8b0 : decide (x16_1 < (l0.length : Int)) = false := decide_eq_false c8
    clear c8
    obtain rfl := Option.some.inj H
    go_wp2
    go_ret
    exact ⟨_, by first | rfl | (simp [errW_none, errW_some] <;> rfl) | (simp [*, errW_none, errW_some] <;> rfl), rn HO_5, bn HB⟩
end Go.Proofs.Ytgeldmhgbnamcaa.P
end
section
-- Printed by the session's own turn of the print (wip/tools/print2.sh): some callees are proved by hand.
namespace Go.Proofs.Ytgeldmhgbnamcaa.P
open Go.RowKit Go.Proofs.YtgeldmhgbnamcaaW.PrintWords Go.Proofs.YtgeldmhgbnamcaaW.PrintLast Go.Proofs.YtgeldmhgbnamcaaW.PrintMore
attribute [local go_sem] max2_int min2_int max_two min_two max_three min_three max_four min_four   -- for this text's walks alone
set_option linter.unusedVariables false
set_option linter.unusedSimpArgs false
/-! ### marchlandref01_Plus: function 47 -/
def marchlandref01_Plus.f (a0 : Int) (a1 : Int) : Option (Int) := if a1 ≥ (IntKind.u64.wrap (18446744073709551615 - a0)) then (some 18446744073709551615) else (some (IntKind.u64.wrap (a0 + a1)))
set_option maxHeartbeats 8000000 in
set_option maxRecDepth 100000 in
theorem marchlandref01_Plus.calls (a0 : Int) (a1 : Int) (r : Int) (w : World) (h : marchlandref01_Plus.f a0 a1 = some r) :
  Calls Try.prog 47 #[.int .u64 a0, .int .u64 a1] w fun e w' => e = .returned (.int .u64 r) ∧ Drawn0 w w' := by
 have H : (if a1 ≥ (IntKind.u64.wrap (18446744073709551615 - a0)) then (some 18446744073709551615) else (some (IntKind.u64.wrap (a0 + a1)))) = some r := h
 clear h
 by_cases c3 : a1 ≥ (IntKind.u64.wrap (18446744073709551615 - a0))
 ·rw [if_pos c3] at H
  have c3b0 : decide ((IntKind.u64.wrap (18446744073709551615 - a0)) ≤ a1) = true := decide_eq_true c3
  clear c3
  obtain rfl := Option.some.inj H
  go_enter Try.func47, Try.ntmps47
  go_wp2
  go_ret
  exact ⟨by first | rfl | (simp; done) | (simp [*]; done), by repeat (first | exact Drawn0.refl _ | apply Drawn0.step)⟩
 ·rw [if_neg c3] at H
  have c3b0 : decide ((IntKind.u64.wrap (18446744073709551615 - a0)) ≤ a1) = false := decide_eq_false c3
  clear c3
  obtain rfl := Option.some.inj H
  go_enter Try.func47, Try.ntmps47
  go_wp2
  go_ret
  exact ⟨by first | rfl | (simp; done) | (simp [*]; done), by repeat (first | exact Drawn0.refl _ | apply Drawn0.step)⟩
end Go.Proofs.Ytgeldmhgbnamcaa.P
end
section
/- front.Reach, by hand: turn. -/
namespace Go.Proofs.Ytgeldmhgbnamcaa.P
open Go.RowKit Go.Proofs.YtgeldmhgbnamcaaW.PrintWords Go.Proofs.YtgeldmhgbnamcaaW.PrintLast Go.Proofs.YtgeldmhgbnamcaaW.PrintMore
attribute [local go_sem] max2_int min2_int max_two min_two max_three min_three max_four min_four   -- for this text's walks alone
set_option linter.unusedVariables false
set_option linter.unusedSimpArgs false
theorem at_F7 {w : World} {ok : Nat → Prop} {A : Option Addr} {n : Nat} {xs : List (List Int)} (h : Kd.F (Kd.slice 38 (Kd.int .u64)) w ok A n xs) (i : Int) (h0 : 0 ≤ i) (h1 : i < n) : ∃ ad A0 c0, A = some ad ∧ w.cell? (ad.add i.toNat) = some (.slice A0 (rd_L7 xs i).length c0) ∧ (rd_L7 xs i).length ≤ c0 ∧ Kd.F (Kd.int .u64) w ok A0 (rd_L7 xs i).length (rd_L7 xs i) ∧ ok ad.block := by
 obtain ⟨ad, c, e, _, hK, hc0, hin⟩ := Kd.F_get h ([] : List Int) i h0 h1
 have hc : ∀ j u, c[j]? = some u → w.cell? (ad.add (i.toNat * 1 + j)) = some u := hc0
 obtain ⟨A0, c0, rfl, l0, g0⟩ := Foot.now hK
 refine ⟨ad, A0, c0, e, by have hq := hc 0 _ rfl; rwa [Nat.mul_one, Nat.add_zero] at hq, l0, fun W' hW => ?_, hin (by decide)⟩
 obtain ⟨A1, c1, e1, l1, g1⟩ := hK W' hW
 cases e1
 exact g1
/-- The state of a Reach at g in a world, beside the one at which it is begun. -/
structure St (W : World) (base g : Nat) (pv bv fv : Value) (F : List Int) (wr : World) : Prop where
 hg : wr.heap[g]? = some (.cells #[pv, bv, fv] 118 (0, 0))
 hF : Kd.R (Kd.int .u64) 38 wr base (fun k => k ≠ g) fv F
 kept : Kept W wr (fun k => k = g ∨ some k = fv.ownBlock)
 bel : Below base W wr
theorem St.below {W : World} {base g : Nat} {pv bv fv : Value} {F : List Int} {wr w' : World} (h : St W base g pv bv fv F wr) (hbg : base ≤ g) (hb : Below wr.heap.size wr w') : St W base g pv bv fv F w' :=
 ⟨blk_below h.hg hb, Kd.R_below h.hF hb, h.kept.below hb, h.bel.trans (hb.mono (by have := blk_lt h.hg; omega))⟩
theorem St.cell {W : World} {base g : Nat} {pv bv fv : Value} {F : List Int} {wr : World} (h : St W base g pv bv fv F wr) : wr.cell? ⟨g, 0, none⟩ = some pv ∧ wr.cell? ⟨g, 1, none⟩ = some bv ∧ wr.cell? ⟨g, 2, none⟩ = some fv ∧ wr.frozen? ⟨g, 1, none⟩ = false ∧ wr.frozen? ⟨g, 2, none⟩ = false := by
 refine ⟨?_, ?_, ?_, blk_frozen h.hg 1, blk_frozen h.hg 2⟩ <;> (rw [blk_cell h.hg]; rfl)
theorem St.put {W : World} {base g gf fn fc : Nat} {pv bv : Value} {F : List Int} {wr : World} (h : St W base g pv bv (.slice (some ⟨gf, 0, none⟩) fn fc) F wr) (j x : Int) : St W base g pv bv (.slice (some ⟨gf, 0, none⟩) fn fc) (F.set j.toNat x) (wr.setCell ⟨gf, j.toNat, none⟩ (.int .u64 x)) :=
 have hne : gf ≠ g := h.hF.1 gf rfl
 ⟨blk_far h.hg (fun e => hne e.symm) _, Kd.R_putn h.hF j x, h.kept.setCell (p := ⟨gf, j.toNat, none⟩) (.inl (.inr rfl)) _, h.bel.setCell (p := ⟨gf, j.toNat, none⟩) (Kd.R_base h.hF gf rfl) _⟩
theorem hold_next {W : World} {base g n : Nat} {pv bv fv : Value} {F : List Int} {x : Value} {w1 w' : World} (hbg : base ≤ g) (h : w1.cell? ⟨n, 0, none⟩ = some x ∧ n < w1.heap.size ∧ St W base g pv bv fv F w1) (hb : Below w1.heap.size w1 w') : w'.cell? ⟨n, 0, none⟩ = some x ∧ n < w'.heap.size ∧ St W base g pv bv fv F w' :=
 ⟨(hb.cell (p := ⟨n, 0, none⟩) h.2.1).trans h.1, Nat.lt_of_lt_of_le h.2.1 hb.size, h.2.2.below hbg hb⟩
theorem hold_C {W : World} {base g n : Nat} {pv bv fv : Value} {F : List Int} {x : Value} {w' : World} {A : Option Addr} {m : Nat} {l : List S50} (hF : Kd.F k50 W (fun k => ¬ (k = g ∨ some k = fv.ownBlock)) A m l) (h : w'.cell? ⟨n, 0, none⟩ = some x ∧ n < w'.heap.size ∧ St W base g pv bv fv F w') : Kd.C k50 w' A m l := Kd.F_now (Kd.F_kept hF h.2.2.kept (fun _ hk => hk))
def turn_l2 : Nat → Int → List Int → List Int → Int → Option (List Int)
 | 0, _, _, _, _ => none
 | k + 1, t, row, F, j => if j < (row.length : Int) then (if j < (F.length : Int) then (stamp_Plus.f t (rd row j)).bind fun s => turn_l2 k t row (F.set j.toNat (mn (rd F j) s)) (j + 1) else none) else some F
def turn_l1 : Nat → List (List Int) → List S50 → List S50 → List Int → Int → Option (List Int)
 | 0, _, _, _, _, _ => none
 | k + 1, P, b, c, F, i => if i < (c.length : Int) then ((bag_Least.f k b (rd_T50 c i).f0).bind fun t => if 0 ≤ (rd_T50 c i).f0 then (if (rd_T50 c i).f0 < (P.length : Int) then (turn_l2 k t (rd_L7 P (rd_T50 c i).f0) F 0).bind fun F' => turn_l1 k P b c F' (i + 1) else none) else none) else some F
def turn_l0 : Nat → List (List Int) → List S50 → List S50 → List S50 → List Int → Int → Option (List Int)
 | 0, _, _, _, _, _, _ => none
 | k + 1, P, was, b, c, F, i => if i < (c.length : Int) then ((bag_Least.f k b (rd_T50 c i).f0).bind fun t => (bag_Least.f k was (rd_T50 c i).f0).bind fun u => if t > u then front_Of.f k P b else turn_l0 k P was b c F (i + 1)) else turn_l1 k P b c F 0
def turn.T15 : Bool × List (List Nat × List Nat) := (true, [([], []), ([0], [0]), ([1], [1]), ([2], [2]), ([], []), ([], []), ([5], [5]), ([6], [6]), ([7], [7]), ([], []), ([8, 9], [8, 9]), ([10], [10]), ([], []), ([], []), ([12, 13], [12, 13]), ([11, 14], [11, 14]), ([3, 4, 0, 1, 2, 3, 4, 5, 6, 7, 8, 9, 10, 11, 12, 13, 14, 15], [3, 4]), ([16, 15, 14, 0, 1, 2, 3, 4, 5, 6, 7, 8, 9, 10, 11, 12, 13, 14, 15], [15, 16])])
def turn.B15 : List Nat := [0, 1, 3, 7, 0, 0, 32, 96, 224, 0, 992, 2016, 0, 0, 12288, 32736, 65535, 131071]
theorem turn.tab15 : rtab .any (opsOf Try.f85 15) = turn.T15 := by kernel_rfl
theorem turn.bits15 : waitsOk turn.T15.2 turn.B15 = true := by kernel_rfl
set_option maxHeartbeats 4000000 in
set_option maxRecDepth 100000 in
theorem turn_calls (k g base : Nat) (pA : Option Addr) (pc : Nat) (P : List (List Int)) (wA : Option Addr) (wc : Nat) (was : List S50) (bA : Option Addr) (bc : Nat) (b : List S50) (cA : Option Addr) (cc : Nat) (c : List S50) (fA : Option Addr) (fn fc : Nat) (F r : List Int) (W : World)
  (hg : W.heap[g]? = some (.cells #[.slice pA P.length pc, .slice wA was.length wc, .slice fA fn fc] 118 (0, 0))) (hbg : base ≤ g)
  (hF : Kd.R (Kd.int .u64) 38 W base (fun k => k ≠ g) (.slice fA fn fc) F)
  (hP : Kd.F (Kd.slice 38 (Kd.int .u64)) W (fun k => ¬ (k = g ∨ some k = (Value.slice fA fn fc).ownBlock)) pA P.length P) (hpc : P.length ≤ pc)
  (hw : Kd.F k50 W (fun k => ¬ (k = g ∨ some k = (Value.slice fA fn fc).ownBlock)) wA was.length was) (hwc : was.length ≤ wc)
  (hb : Kd.F k50 W (fun k => ¬ (k = g ∨ some k = (Value.slice fA fn fc).ownBlock)) bA b.length b) (hbc : b.length ≤ bc)
  (hc : Kd.F k50 W (fun k => ¬ (k = g ∨ some k = (Value.slice fA fn fc).ownBlock)) cA c.length c) (hcc : c.length ≤ cc)
  (h : turn_l0 k P was b c F 0 = some r) :
  Calls Try.prog 85 #[.pointer (some ⟨g, 0, none⟩), .slice cA c.length cc, .slice bA b.length bc] W fun e w' => e = .returned (.tuple #[]) ∧ ∃ fv', w'.heap[g]? = some (.cells #[.slice pA P.length pc, .slice bA b.length bc, fv'] 118 (0, 0)) ∧ Kd.R (Kd.int .u64) 38 w' base (fun k => k ≠ g) fv' r ∧ Kept W w' (fun k => k = g ∨ some k = (Value.slice fA fn fc).ownBlock) ∧ Below base W w' := by
 have HS0 := Aside0.mk (St.mk hg hF (Kept.refl W _) (Below.refl base W))
 obtain ⟨hx0, hx1, hx2, hz1, hz2⟩ := HS0.out.cell
 have HP := Aside0.mk hP
 have HW := Aside0.mk hw
 have HBb := Aside0.mk hb
 have HCc := Aside0.mk hc
 have HH := Aside0.mk h
 have hmx := (Kd.F_now hc).2.1
 clear hP hw hb hc h hF
 have HS1 : Aside0 (St W base g (.slice pA P.length pc) (.slice bA b.length bc) (.slice fA fn fc) F (W.setCell ⟨g, 1, none⟩ (.slice bA b.length bc))) := ⟨by
  have h0 := HS0.out
  exact ⟨blk_put h0.hg 1 _ rfl, Kd.R_far h0.hF (fun _ hk => hk) _, h0.kept.setCell (.inl (.inl rfl)) _, h0.bel.setCell hbg _⟩⟩
 go_enter Try.func85, Try.ntmps85
 go_wp2
 generalize W.setCell ⟨g, 1, none⟩ (.slice bA b.length bc) = W1 at *
 clear hx0 hx1 hx2 hz1 hz2
 go_loopg [24] k (fun kq v24 wr => ∃ i : Int, v24 = .int .i64 i ∧ Aside0 (0 ≤ i ∧ turn_l0 kq P was b c F i = some r) ∧ Aside0 (kq ≤ k) ∧ Aside0 (St W base g (.slice pA P.length pc) (.slice bA b.length bc) (.slice fA fn fc) F wr))
 case atStart => exact ⟨0, rfl, ⟨by omega, HH.out⟩, ⟨Nat.le_refl _⟩, HS1⟩
 case round =>
  obtain ⟨m, rfl, HI, HK1, HS⟩ := hrel
  have i0 := HI.out.1
  cases gk with
  | zero => exact absurd HI.out.2 (by simp [turn_l0])
  | succ k1 =>
   have H := HI.out.2
   simp only [turn_l0] at H
   by_cases ci : m < (c.length : Int)
   ·rw [if_pos ci] at H
    have hltb := decide_eq_true ci
    obtain ⟨t, ht, H⟩ := Option.bind_eq_some_iff.1 H
    obtain ⟨u, hu, H⟩ := Option.bind_eq_some_iff.1 H
    have HT := Aside0.mk ht
    have HU := Aside0.mk hu
    have HQ := Aside0.mk H
    clear ht hu H
    obtain ⟨ad, rfl, hx0, hx1, hx2⟩ := at_T50 (Kd.F_now (Kd.F_kept HCc.out HS.out.kept (fun _ hk => hk))) m i0 ci
    go_wp2
    have s0 : Aside0 (St W base g (.slice pA P.length pc) (.slice bA b.length bc) (.slice fA fn fc) F (wr.alloc (.cells #[.int .i64 (rd_T50 c m).f0, .int .u64 (rd_T50 c m).f1, .int .i64 (rd_T50 c m).f2] 50))) := ⟨HS.out.below hbg (below_alloc (Below.refl _ _) _)⟩
    have s1 : (wr.alloc (.cells #[.int .i64 (rd_T50 c m).f0, .int .u64 (rd_T50 c m).f1, .int .i64 (rd_T50 c m).f2] 50)).cell? ⟨wr.heap.size, 0, none⟩ = some (.int .i64 (rd_T50 c m).f0) := by simp [go_sem]
    have s2 : wr.heap.size < (wr.alloc (.cells #[.int .i64 (rd_T50 c m).f0, .int .u64 (rd_T50 c m).f1, .int .i64 (rd_T50 c m).f2] 50)).heap.size := by simp
    generalize wr.alloc (.cells #[.int .i64 (rd_T50 c m).f0, .int .u64 (rd_T50 c m).f1, .int .i64 (rd_T50 c m).f2] 50) = W2 at *
    go_region_held3 (fun w' => w'.cell? ⟨wr.heap.size, 0, none⟩ = some (.int .i64 (rd_T50 c m).f0) ∧ wr.heap.size < w'.heap.size ∧ St W base g (.slice pA P.length pc) (.slice bA b.length bc) (.slice fA fn fc) F w')
     (first | exact ⟨s1, s2, s0.out.below hbg (below_drew (Below.refl _ _))⟩ | exact hN)
     (first | (go_at_call 30; (with_reducible refine (bag_Least.calls k1 bA bc b (rd_T50 c m).f0 t _ ?_ hbc HT.out).mono ?_); (exact hold_C HBb.out (by assumption)); rintro e w' ⟨rfl, hb⟩; have hN := hold_next hbg (by assumption) hb; clear hb) | (go_at_call 30; (with_reducible refine (bag_Least.calls k1 wA wc was (rd_T50 c m).f0 u _ ?_ hwc HU.out).mono ?_); (exact hold_C HW.out (by assumption)); rintro e w' ⟨rfl, hb⟩; have hN := hold_next hbg (by assumption) hb; clear hb))
    all_goals
     rename_i hH
     have HS3 := Aside0.mk hH.2.2
     clear hH s0 s1 s2
     obtain ⟨hy0, hy1, hy2, hz1, hz2⟩ := HS3.out.cell
     by_cases hgt : t > u
     ·have HQ2 := HQ.out
      rw [if_pos hgt] at HQ2
      have HOf := Aside0.mk HQ2
      have hd := decide_eq_true (show u < t from hgt)
      clear HQ2 hgt
      simp only [hd]
      go_wp2_with (first | (go_at_call 43; (with_reducible refine (front_Of.calls k1 pA pc P bA bc b r _ ?_ hpc ?_ hbc HOf.out).mono ?_); (exact Kd.F_now (Kd.F_kept HP.out HS3.out.kept (fun _ hk => hk))); (exact Kd.F_now (Kd.F_kept HBb.out HS3.out.kept (fun _ hk => hk))); rintro e w5 ⟨v5, rfl, ho, hb⟩; have HS5 := Aside0.mk (HS3.out.below hbg hb); obtain ⟨A5, c5, rfl⟩ := Kd.R_slice ho; have HO5 := Aside0.mk ho; obtain ⟨q0, q1, q2, q3, q4⟩ := HS5.out.cell; clear ho hb))
      ((try simp only [Exit.inBlock, Exit.then]); first | refine bodyPost_ret (results_none rfl _ _ _) rfl ?_ | refine bodyPost_end (results_none rfl _ _ _) rfl ?_)
      exact ⟨rfl, _, blk_put HS5.out.hg 2 _ rfl, Kd.R_far (Kd.R_lower (Kd.R_mono (Kd.R_bound HO5.out) (ok' := fun k => k ≠ g) (fun k hk => by have h1 := hk.2.1; have h2 := blk_lt HS3.out.hg; show k ≠ g; omega)) (by have := blk_lt HS3.out.hg; omega)) (fun k hk => hk) _, HS5.out.kept.setCell (p := ⟨g, 2, none⟩) (.inl (.inl rfl)) _, HS5.out.bel.setCell (p := ⟨g, 2, none⟩) hbg _⟩
     ·have HQ2 := HQ.out
      rw [if_neg hgt] at HQ2
      have HOf := Aside0.mk HQ2
      have hd := decide_eq_false (show ¬ u < t from hgt)
      clear HQ2 hgt
      simp only [hd]
      go_wp2
      go_roundg k1
      case measure => have := HK1.out; omega
      case rel => exact ⟨m + 1, by go_num, ⟨by omega, HOf.out⟩, ⟨by have := HK1.out; omega⟩, HS3⟩
   ·rw [if_neg ci] at H
    have hltb := decide_eq_false ci
    have HQ := Aside0.mk H
    clear H
    go_wp2
    go_loopg [49] k1 (fun kq v49 wr => ∃ (i : Int) (F2 : List Int), v49 = .int .i64 i ∧ Aside0 (0 ≤ i ∧ turn_l1 kq P b c F2 i = some r) ∧ Aside0 (kq ≤ k1) ∧ Aside0 (St W base g (.slice pA P.length pc) (.slice bA b.length bc) (.slice fA fn fc) F2 wr))
    case atStart => exact ⟨0, F, rfl, ⟨by omega, HQ.out⟩, ⟨Nat.le_refl _⟩, HS⟩
    case round =>
     clear hltb HS HQ
     obtain ⟨i, F2, rfl, HI, HK2, HS⟩ := hrel
     have i0 := HI.out.1
     cases gk with
     | zero => exact absurd HI.out.2 (by simp [turn_l1])
     | succ k2 =>
      have H := HI.out.2
      simp only [turn_l1] at H
      by_cases ci : i < (c.length : Int)
      ·rw [if_pos ci] at H
       have hltb := decide_eq_true ci
       obtain ⟨t, ht, H⟩ := Option.bind_eq_some_iff.1 H
       by_cases p0 : 0 ≤ (rd_T50 c i).f0
       ·rw [if_pos p0] at H
        by_cases p1 : (rd_T50 c i).f0 < (P.length : Int)
        ·rw [if_pos p1] at H
         have HT := Aside0.mk ht
         have HQ := Aside0.mk H
         clear ht H
         obtain ⟨ad, rfl, hx0, hx1, hx2⟩ := at_T50 (Kd.F_now (Kd.F_kept HCc.out HS.out.kept (fun _ hk => hk))) i i0 ci
         have s1 : (wr.alloc (.cells #[.int .i64 (rd_T50 c i).f0, .int .u64 (rd_T50 c i).f1, .int .i64 (rd_T50 c i).f2] 50)).cell? ⟨wr.heap.size, 0, none⟩ = some (.int .i64 (rd_T50 c i).f0) := by simp [go_sem]
         have s2 : wr.heap.size < (wr.alloc (.cells #[.int .i64 (rd_T50 c i).f0, .int .u64 (rd_T50 c i).f1, .int .i64 (rd_T50 c i).f2] 50)).heap.size := by simp
         have s3 := Aside0.mk (show _ ∧ _ ∧ _ from ⟨s1, s2, HS.out.below hbg (below_alloc (Below.refl _ _) (.cells #[.int .i64 (rd_T50 c i).f0, .int .u64 (rd_T50 c i).f1, .int .i64 (rd_T50 c i).f2] 50))⟩)
         obtain ⟨ad7, A7, c7, hA7, hr7, hl7, hF7, hk7⟩ := at_F7 HP.out (rd_T50 c i).f0 p0 p1
         subst hA7
         have HF7 := Aside0.mk hF7
         clear s1 s2 hF7
         go_wp2_with (first | (go_at_call 30; (with_reducible refine (bag_Least.calls k2 bA bc b (rd_T50 c i).f0 t _ ?_ hbc HT.out).mono ?_); (exact hold_C HBb.out s3.out); rintro e w3 ⟨rfl, hb⟩; have HN := Aside0.mk (hold_next hbg s3.out hb); clear hb))
         have s4 := HN.out.1
         have s5 := HN.out.2.1
         obtain ⟨hy0, hy1, hy2, hz1, hz2⟩ := HN.out.2.2.cell
         have s6 := cell_kept hr7 HN.out.2.2.kept (by rw [add_block]; exact hk7)
         have s7 := Aside0.mk HN.out.2.2
         clear HN s3 hx0 hx1 hx2 hr7
         generalize w3 = W3 at *
         go_region_held3 (fun w' => w'.cell? ⟨wr.heap.size, 0, none⟩ = some (.int .i64 (rd_T50 c i).f0) ∧ w'.cell? ⟨g, 0, none⟩ = some (.slice (some ad7) P.length pc) ∧ w'.cell? (ad7.add (rd_T50 c i).f0.toNat) = some (.slice A7 (rd_L7 P (rd_T50 c i).f0).length c7) ∧ St W base g (.slice (some ad7) P.length pc) (.slice bA b.length bc) (.slice fA fn fc) F2 w')
          (first | exact ⟨s4, hy0, s6, s7.out.below hbg (below_drew (Below.refl _ _))⟩ | fail) (fail)
         all_goals
          rename_i hH
          have HS4 := Aside0.mk hH.2.2.2
          clear hH s4 s5 hy0 hy1 hy2 hz1 hz2 s6 s7
          generalize W3.drew = W4 at *
          go_wp2
          go_loopg [66] k2 (fun kq v66 wr2 => ∃ (j : Int) (F3 : List Int), v66 = .int .i64 j ∧ Aside0 (0 ≤ j ∧ ((turn_l2 kq t (rd_L7 P (rd_T50 c i).f0) F3 j).bind fun F' => turn_l1 k2 P b c F' (i + 1)) = some r) ∧ Aside0 (kq ≤ k2) ∧ Aside0 (St W base g (.slice (some ad7) P.length pc) (.slice bA b.length bc) (.slice fA fn fc) F3 wr2))
          case atStart => exact ⟨0, F2, rfl, ⟨by omega, HQ.out⟩, ⟨Nat.le_refl _⟩, HS4⟩
          case round =>
          clear HQ HS4 HS HT HI
          obtain ⟨j, F3, rfl, HI, HK3, HS⟩ := hrel
          have j0 := HI.out.1
          cases gk with
          | zero => exact absurd HI.out.2 (by simp [turn_l2])
          | succ k3 =>
          have H := HI.out.2
          simp only [turn_l2] at H
          by_cases cj : j < ((rd_L7 P (rd_T50 c i).f0).length : Int)
          ·rw [if_pos cj] at H
           have hltj := decide_eq_true cj
           by_cases cf : j < (F3.length : Int)
           ·rw [if_pos cf] at H
            obtain ⟨fl, _, _⟩ := Kd.R_reads' HS.out.hF
            have jf : j < (fn : Int) := by omega
            obtain ⟨gf, cf2, ef, hbgf, _, _⟩ := Kd.R_form HS.out.hF (by omega)
            injection ef with ef1 ef2 ef3
            subst ef1 ef3
            cases hs : stamp_Plus.f t (rd (rd_L7 P (rd_T50 c i).f0) j) with
            | none => rw [hs] at H; cases H
            | some s =>
            rw [hs, Option.bind_some] at H
            have HSP := Aside0.mk hs
            clear hs
            obtain ⟨ji, hji⟩ : ∃ j_ : Int, mn (rd F3 j) s = j_ := ⟨_, rfl⟩
            rw [hji] at H
            have hji_ : (if s < rd F3 j then s else rd F3 j) = ji := hji
            have HQ := Aside0.mk H
            clear H hji
            have jr := (Kd.F_now HF7.out).2.1
            obtain ⟨ad8, e8, hx8⟩ := Kd.at_int (Kd.F_now (Kd.F_kept HF7.out HS.out.kept (fun _ hk => hk))) j j0 cj
            subst e8
            have p758 := eq_true j0
            have q758 := eq_true cj
            have q759 := eq_true jf
            go_wp2
            have HSD := Aside0.mk (HS.out.below hbg (below_drew (Below.refl _ _)))
            obtain ⟨hy0, hy1, hy2, hz1, hz2⟩ := HSD.out.cell
            obtain ⟨hx9, hf9⟩ := Kd.R_celln 0 HSD.out.hF j j0 jf
            refine start_ (n := 18) (S := fun w' => w'.cell? ⟨g, 2, none⟩ = some (.slice (some ⟨gf, 0, none⟩) fn fc) ∧ w'.cell? ⟨gf, j.toNat, none⟩ = some (.int .u64 (rd F3 j))) (ds := [17]) (mk_ 0 18) (by kernel_rfl) rfl rfl ⟨hy2, hx9⟩ (fun hHeld => ?_)
            refine with_tabW turn.tab15 turn.bits15 (fun HT_ HW_ => ?_)
            generalize wr.drew = w20 at HSD hx9 hf9 hHeld ⊢
            refine pv_ 0 71 (mk_ 1 17) HT_ ?_
            refine pv_ 1 72 (mk_ 2 16) HT_ ?_
            refine pv_ 2 73 (mk_ 3 15) HT_ ?_
            refine pv_ 4 75 #[true, true, true, false, true, false, false, false, false, false, false, false, false, false, false, false, false, false] HT_ ?_
            refine pv_ 5 76 #[true, true, true, false, true, true, false, false, false, false, false, false, false, false, false, false, false, false] HT_ ?_
            refine pv_ 6 77 #[true, true, true, false, true, true, true, false, false, false, false, false, false, false, false, false, false, false] HT_ ?_
            refine pv_ 7 78 #[true, true, true, false, true, true, true, true, false, false, false, false, false, false, false, false, false, false] HT_ ?_
            refine pv_ 9 80 #[true, true, true, false, true, true, true, true, false, true, false, false, false, false, false, false, false, false] HT_ ?_
            refine pv_ 12 83 #[true, true, true, false, true, true, true, true, false, true, false, false, true, false, false, false, false, false] HT_ ?_
            refine pv_ 13 84 #[true, true, true, false, true, true, true, true, false, true, false, false, true, true, false, false, false, false] HT_ ?_
            refine take_ (i := 3) (N := some 74) (v := ?_) (a' := ?_) #[true, true, true, true, true, true, true, true, false, true, false, false, true, true, false, false, false, false] rfl rfl (take_ofW HT_.out HW_.out (by kernel_rfl)) (fun _ _ _ h => h) (Or.inl ⟨by rfl, ?_⟩) hHeld ?_ ?_
            rotate_left
            ·intro w' ⟨s0, s1⟩
             go_simp
             with_reducible rfl
            rotate_left
            ·simp only [Act.put, List.setIfInBounds_toArray, List.set_cons_zero, List.set_cons_succ, i64_w, i32_w]
             rfl
            refine take_ (i := 8) (N := some 79) (v := ?_) (a' := ?_) #[true, true, true, true, true, true, true, true, true, true, false, false, true, true, false, false, false, false] rfl rfl (take_ofW HT_.out HW_.out (by kernel_rfl)) (fun _ _ _ h => h) (Or.inl ⟨by rfl, ?_⟩) hHeld ?_ ?_
            rotate_left
            ·intro w' ⟨s0, s1⟩
             go_simp
             with_reducible rfl
            rotate_left
            ·simp only [Act.put, List.setIfInBounds_toArray, List.set_cons_zero, List.set_cons_succ, i64_w, i32_w]
             rfl
            refine pv_ 10 81 #[true, true, true, true, true, true, true, true, true, true, true, false, true, true, false, false, false, false] HT_ ?_
            refine take_ (i := 11) (N := some 82) (v := ?_) (a' := ?_) (mk_ 14 4) rfl rfl (take_ofW HT_.out HW_.out (by kernel_rfl)) (fun _ _ _ h => h) (Or.inl ⟨by rfl, ?_⟩) hHeld ?_ ?_
            rotate_left
            ·intro w' ⟨s0, s1⟩
             go_simp
             with_reducible rfl
            rotate_left
            ·simp only [Act.put, List.setIfInBounds_toArray, List.set_cons_zero, List.set_cons_succ, i64_w, i32_w]
             rfl
            refine one_ (i := 14) (N := some 85) (mk_ 15 3) rfl rfl (one_of HT_.out (by kernel_rfl)) (by decide) (fun K hK => ?_)
            refine goes_ Try.func70 (by kernel_rfl) rfl #[.int .u64 t, .int .u64 (rd (rd_L7 P (rd_T50 c i).f0) j)] (by rfl) rfl rfl (by (try simp only [List.map_toArray, List.map_cons, List.map_nil]); first | done | rfl | (simp only [List.length_drop, List.length_take]; rfl)) ?_
            with_reducible refine (stamp_Plus.calls t (rd (rd_L7 P (rd_T50 c i).f0) j) s _ HSP.out).mono ?_
            rintro e w' ⟨rfl, ⟨nd, rfl⟩⟩
            refine ⟨_, rfl, ?_⟩
            obtain ⟨hx19_0, hf19_0⟩ := Kd.R_celln 0 HSD.out.hF j j0 jf
            have HSP2 := Aside0.mk ((HSD.out.below hbg (pw_below_drewN (Below.refl _ _) nd)).put j ji)
            refine hK.out _ _ (hHeld) (fun hHeld => ?_)
            clear hK K
            refine norm_ (a' := ?_) ?_ ?_
            rotate_left
            ·show Act.put _ (some 85) _ = _
             simp only [Act.put, List.setIfInBounds_toArray, List.set_cons_zero, List.set_cons_succ, i64_w, i32_w]
             rfl
            refine pv_ 15 86 (mk_ 16 2) HT_ ?_
            refine pv_ 16 87 (mk_ 17 1) HT_ ?_
            refine last_ (i := 17) (N := none) (mk_ 18 0) rfl rfl (one_of HT_.out (by kernel_rfl)) (by decide) (fun K hK => ?_)
            refine skip_ (w1 := ?_) (by rfl) rfl ?_ ?_
            rotate_left
            ·go_simp
             rfl
            refine hK.out _ _ ?_
            clear hK K
            refine done_ (done_of HT_.out (by kernel_rfl)) ?_
            go_wp2
            go_roundg k3
            case measure => have := HK3.out; omega
            case rel => exact ⟨j + 1, F3.set j.toNat ji, by go_num, ⟨by omega, HQ.out⟩, ⟨by have := HK3.out; omega⟩, HSP2⟩
           ·rw [if_neg cf] at H; cases H
          ·rw [if_neg cj] at H
           have hltj := decide_eq_false cj
           have HQ := Aside0.mk (show turn_l1 k2 P b c F3 (i + 1) = some r from H)
           clear H
           go_wp2
           go_roundg k2
           case measure => have := HK2.out; omega
           case rel => exact ⟨i + 1, F3, by go_num, ⟨by omega, HQ.out⟩, ⟨by have := HK2.out; omega⟩, HS⟩
        ·rw [if_neg p1] at H; cases H
       ·rw [if_neg p0] at H; cases H
      ·rw [if_neg ci] at H
       obtain rfl := Option.some.inj H
       have hltb := decide_eq_false ci
       go_wp2
       ((try simp only [Exit.inBlock, Exit.then]); first | refine bodyPost_ret (results_none rfl _ _ _) rfl ?_ | refine bodyPost_end (results_none rfl _ _ _) rfl ?_)
       exact ⟨rfl, _, HS.out.hg, HS.out.hF, HS.out.kept, HS.out.bel⟩
end Go.Proofs.Ytgeldmhgbnamcaa.P
end
section
-- Printed by the session's own turn of the print (wip/tools/print2.sh): some callees are proved by hand.
namespace Go.Proofs.Ytgeldmhgbnamcaa.P
open Go.RowKit Go.Proofs.YtgeldmhgbnamcaaW.PrintWords Go.Proofs.YtgeldmhgbnamcaaW.PrintLast Go.Proofs.YtgeldmhgbnamcaaW.PrintMore
attribute [local go_sem] max2_int min2_int max_two min_two max_three min_three max_four min_four   -- for this text's walks alone
set_option linter.unusedVariables false
set_option linter.unusedSimpArgs false
/-! ### batch_within: function 73 -/
def batch_within.f (a0 : Int) : Option (Bool) := if a0 ≥ (-576460752303423488) then (some (decide (a0 ≤ 576460752303423488))) else (some false)
set_option maxHeartbeats 8000000 in
set_option maxRecDepth 100000 in
theorem batch_within.calls (a0 : Int) (r : Bool) (w : World) (h : batch_within.f a0 = some r) :
  Calls Try.prog 73 #[.int .i64 a0] w fun e w' => e = .returned (.bool r) ∧ Drawn0 w w' := by
 have H : (if a0 ≥ (-576460752303423488) then (some (decide (a0 ≤ 576460752303423488))) else (some false)) = some r := h
 clear h
 by_cases c2 : a0 ≥ (-576460752303423488)
 ·rw [if_pos c2] at H
  have c2b0 : decide ((-576460752303423488) ≤ a0) = true := decide_eq_true c2
  clear c2
  obtain rfl := Option.some.inj H
  go_enter Try.func73, Try.ntmps73
  go_wp2
  go_ret
  exact ⟨by first | rfl | (simp; done) | (simp [*]; done), by repeat (first | exact Drawn0.refl _ | apply Drawn0.step)⟩
 ·rw [if_neg c2] at H
  have c2b0 : decide ((-576460752303423488) ≤ a0) = false := decide_eq_false c2
  clear c2
  obtain rfl := Option.some.inj H
  go_enter Try.func73, Try.ntmps73
  go_wp2
  go_ret
  exact ⟨by first | rfl | (simp; done) | (simp [*]; done), by repeat (first | exact Drawn0.refl _ | apply Drawn0.step)⟩
end Go.Proofs.Ytgeldmhgbnamcaa.P
end
section
-- Printed by the session's own turn of the print (wip/tools/print2.sh): some callees are proved by hand.
namespace Go.Proofs.Ytgeldmhgbnamcaa.P
open Go.RowKit Go.Proofs.YtgeldmhgbnamcaaW.PrintWords Go.Proofs.YtgeldmhgbnamcaaW.PrintLast Go.Proofs.YtgeldmhgbnamcaaW.PrintMore
attribute [local go_sem] max2_int min2_int max_two min_two max_three min_three max_four min_four   -- for this text's walks alone
set_option linter.unusedVariables false
set_option linter.unusedSimpArgs false
/-! ### cmp_Or_int: function 75 -/
def cmp_Or_int.l0 : Nat → Int → List Int → Int → Int → Option (Int)
 | 0, _, _, _, _ => none
 | k + 1, x3, x6, x7, x8 => if x8 < x7 then (if 0 ≤ x8 then (if x8 < (x6.length : Int) then (if (rd x6 x8) = x3 then (cmp_Or_int.l0 k x3 x6 x7 (wrap64 (x8 + 1))) else (some (rd x6 x8))) else (none)) else (none)) else (some x3)
def cmp_Or_int.f (k : Nat) (l0 : List Int) : Option (Int) := cmp_Or_int.l0 k 0 l0 (l0.length : Int) 0
theorem cmp_Or_int.mono_l : ∀ k, (∀ y0 y1 y2 y3, LeO (cmp_Or_int.l0 k y0 y1 y2 y3) (cmp_Or_int.l0 (k + 1) y0 y1 y2 y3))
 | 0 => fun _ _ _ _ r h => by simp [cmp_Or_int.l0] at h
 | k + 1 => by
  have ih0 := cmp_Or_int.mono_l k
  ·intro y0 y1 y2 y3
   unfold cmp_Or_int.l0
   repeat' first
   | (with_reducible exact ih0 _ _ _ _)
   | (with_reducible exact LeO.refl _)
   | (with_reducible exact LeO.none _)
   | (with_reducible refine LeO.ite ?_ ?_)
   | (with_reducible refine LeO.bind ?_ (fun _ => ?_))
   | exact ih0 _ _ _ _
   | exact LeO.none _
   | refine LeO.ite ?_ ?_
   | refine LeO.bind ?_ (fun _ => ?_)
theorem cmp_Or_int.mono : ∀ a0 k, LeO (cmp_Or_int.f k a0) (cmp_Or_int.f (k + 1) a0) := by
 intro a0 k
 have ih0 := cmp_Or_int.mono_l k
 unfold cmp_Or_int.f
 repeat' first
   | (with_reducible exact ih0 _ _ _ _)
   | (with_reducible exact LeO.refl _)
   | (with_reducible exact LeO.none _)
   | (with_reducible refine LeO.ite ?_ ?_)
   | (with_reducible refine LeO.bind ?_ (fun _ => ?_))
   | exact ih0 _ _ _ _
   | exact LeO.none _
   | refine LeO.ite ?_ ?_
   | refine LeO.bind ?_ (fun _ => ?_)
set_option maxHeartbeats 8000000 in
set_option maxRecDepth 100000 in
theorem cmp_Or_int.calls (k : Nat) (A0 : Option Addr) (c0 : Nat) (l0 : List Int) (r : Int) (w : World) (hr0 : Kd.C (Kd.int .i64) w A0 l0.length l0) (hc0 : l0.length ≤ c0) (h : cmp_Or_int.f k l0 = some r) :
  Calls Try.prog 75 #[.slice A0 l0.length c0] w fun e w' => e = .returned (.int .i64 r) ∧ Drawn0 w w' := by
 have HR0 := Aside0.mk hr0
 have HC0 := Aside0.mk hc0
 clear hr0 hc0
 have H : (cmp_Or_int.l0 k 0 l0 (l0.length : Int) 0) = some r := h
 clear h
 have H' := Aside0.mk H
 clear H
 go_enter Try.func75, Try.ntmps75
 go_wp2
 go_loopg [8] k (fun kq v8 w' => ∃ (x8_1 : Int), v8 = .int .i64 x8_1 ∧ Aside0 (cmp_Or_int.l0 kq 0 l0 (l0.length : Int) x8_1 = some r) ∧ Aside0 (kq ≤ k) ∧ Drawn0 w w')
 case atStart => exact ⟨(0), (by first | rfl | (simp; done) | (simp [*]; done)), H', ⟨Nat.le_refl _⟩, by repeat (first | exact Drawn0.refl _ | apply Drawn0.step)⟩
 case round =>
  clear H'
  obtain ⟨x8_1, rfl, HA, HK1, ⟨m1, rfl⟩⟩ := hrel
  cases gk with
  | zero => exact absurd HA.out (by simp [cmp_Or_int.l0])
  | succ k1 =>
   have H := HA.out
   clear HA
   simp only [cmp_Or_int.l0] at H
   by_cases c2 : x8_1 < (l0.length : Int)
   ·rw [if_pos c2] at H
    have c2b0 : decide (x8_1 < (l0.length : Int)) = true := decide_eq_true c2
    clear c2
    by_cases c3 : 0 ≤ x8_1
    ·rw [if_pos c3] at H
     have c3b0 : decide (0 ≤ x8_1) = true := decide_eq_true c3
     clear c3
     by_cases c4 : x8_1 < (l0.length : Int)
     ·rw [if_pos c4] at H
      have c4b0 : decide (x8_1 < (l0.length : Int)) = true := decide_eq_true c4
      clear c4
      by_cases c5 : (rd l0 x8_1) = 0
      ·rw [if_pos c5] at H
       have c5b0 : ((rd l0 x8_1) == 0) = true := beq_iff_eq.mpr c5
       have c5b1 : ((rd l0 x8_1) != 0) = false := bne_eq_false_iff_eq.mpr c5
       clear c5
       have H' := Aside0.mk H
       clear H
       have p109 : 0 ≤ (x8_1 : Int) := of_decide_eq_true (by assumption)
       have q109 : x8_1 < (l0.length : Int) := of_decide_eq_true (by assumption)
       obtain ⟨ad109, e109, hx109_0⟩ := Kd.at_int HR0.out x8_1 p109 q109
       cases e109
       replace p109 := eq_true p109
       replace q109 := eq_true q109
       go_wp2
       go_roundg k1
       case measure => have := HK1.out; omega
       case rel => exact ⟨(wrap64 (x8_1 + 1)), (by first | rfl | (simp; done) | (simp [*]; done)), H', ⟨by have := HK1.out; omega⟩, by repeat (first | exact Drawn0.refl _ | apply Drawn0.step)⟩
      ·rw [if_neg c5] at H
       have c5b0 : ((rd l0 x8_1) == 0) = false := beq_eq_false_iff_ne.mpr c5
       have c5b1 : ((rd l0 x8_1) != 0) = true := bne_iff_ne.mpr c5
       obtain rfl := Option.some.inj H
       have p109 : 0 ≤ (x8_1 : Int) := of_decide_eq_true (by assumption)
       have q109 : x8_1 < (l0.length : Int) := of_decide_eq_true (by assumption)
       obtain ⟨ad109, e109, hx109_0⟩ := Kd.at_int HR0.out x8_1 p109 q109
       cases e109
       replace p109 := eq_true p109
       replace q109 := eq_true q109
       go_wp2
       go_ret
       exact ⟨by first | rfl | (simp; done) | (simp [*]; done), by repeat (first | exact Drawn0.refl _ | apply Drawn0.step)⟩
     ·rw [if_neg c4] at H
      exact absurd H (by simp)
    ·rw [if_neg c3] at H
     exact absurd H (by simp)
   ·rw [if_neg c2] at H
    have c2b0 : decide (x8_1 < (l0.length : Int)) = false := decide_eq_false c2
    clear c2
    obtain rfl := Option.some.inj H
    go_wp2
    go_ret
    exact ⟨by first | rfl | (simp; done) | (simp [*]; done), by repeat (first | exact Drawn0.refl _ | apply Drawn0.step)⟩
end Go.Proofs.Ytgeldmhgbnamcaa.P
end
section
-- Printed by the session's own turn of the print (wip/tools/print2.sh): some callees are proved by hand.
namespace Go.Proofs.Ytgeldmhgbnamcaa.P
open Go.RowKit Go.Proofs.YtgeldmhgbnamcaaW.PrintWords Go.Proofs.YtgeldmhgbnamcaaW.PrintLast Go.Proofs.YtgeldmhgbnamcaaW.PrintMore
attribute [local go_sem] max2_int min2_int max_two min_two max_three min_three max_four min_four   -- for this text's walks alone
set_option linter.unusedVariables false
set_option linter.unusedSimpArgs false
/-! ### cmp_isNaN_int: function 89 -/
def cmp_isNaN_int.f (a0 : Int) : Option (Bool) := some (a0 != a0)
set_option maxHeartbeats 8000000 in
set_option maxRecDepth 100000 in
theorem cmp_isNaN_int.calls (a0 : Int) (r : Bool) (w : World) (h : cmp_isNaN_int.f a0 = some r) :
  Calls Try.prog 89 #[.int .i64 a0] w fun e w' => e = .returned (.bool r) ∧ Drawn0 w w' := by
 have H : (some (a0 != a0)) = some r := h
 clear h
 obtain rfl := Option.some.inj H
 go_enter Try.func89, Try.ntmps89
 go_wp2
 go_ret
 exact ⟨by first | rfl | (simp; done) | (simp [*]; done), by repeat (first | exact Drawn0.refl _ | apply Drawn0.step)⟩
end Go.Proofs.Ytgeldmhgbnamcaa.P
end
section
-- Printed by the session's own turn of the print (wip/tools/print2.sh): some callees are proved by hand.
namespace Go.Proofs.Ytgeldmhgbnamcaa.P
open Go.RowKit Go.Proofs.YtgeldmhgbnamcaaW.PrintWords Go.Proofs.YtgeldmhgbnamcaaW.PrintLast Go.Proofs.YtgeldmhgbnamcaaW.PrintMore
attribute [local go_sem] max2_int min2_int max_two min_two max_three min_three max_four min_four   -- for this text's walks alone
set_option linter.unusedVariables false
set_option linter.unusedSimpArgs false
/-! ### cmp_Compare_int: function 76 -/
def cmp_Compare_int.f (a0 : Int) (a1 : Int) : Option (Int) := (cmp_isNaN_int.f a0).bind fun t110 => ((cmp_isNaN_int.f a1).bind fun t111 => (if t110 = true then (if t111 = true then (some 0) else (some (-1))) else (if t111 = true then (some 1) else (if a0 < a1 then (some (-1)) else (if a0 > a1 then (some 1) else (some 0))))))
set_option maxHeartbeats 8000000 in
set_option maxRecDepth 100000 in
theorem cmp_Compare_int.calls (a0 : Int) (a1 : Int) (r : Int) (w : World) (h : cmp_Compare_int.f a0 a1 = some r) :
  Calls Try.prog 76 #[.int .i64 a0, .int .i64 a1] w fun e w' => e = .returned (.int .i64 r) ∧ Drawn0 w w' := by
 have H : ((cmp_isNaN_int.f a0).bind fun t110 => ((cmp_isNaN_int.f a1).bind fun t111 => (if t110 = true then (if t111 = true then (some 0) else (some (-1))) else (if t111 = true then (some 1) else (if a0 < a1 then (some (-1)) else (if a0 > a1 then (some 1) else (some 0))))))) = some r := h
 clear h
 replace H := Option.bind_eq_some_iff.mp H
 obtain ⟨t110, A30, H⟩ := H
 replace H : ((cmp_isNaN_int.f a1).bind fun t111 => (if t110 = true then (if t111 = true then (some 0) else (some (-1))) else (if t111 = true then (some 1) else (if a0 < a1 then (some (-1)) else (if a0 > a1 then (some 1) else (some 0)))))) = some r := H
 have A3 := Aside0.mk A30
 clear A30
 replace H := Option.bind_eq_some_iff.mp H
 obtain ⟨t111, A40, H⟩ := H
 replace H : (if t110 = true then (if t111 = true then (some 0) else (some (-1))) else (if t111 = true then (some 1) else (if a0 < a1 then (some (-1)) else (if a0 > a1 then (some 1) else (some 0))))) = some r := H
 have A4 := Aside0.mk A40
 clear A40
 by_cases c5 : t110 = true
 ·subst c5
  have H1 : (if t111 = true then (some 0) else (some (-1))) = some r := by rw [if_pos rfl] at H; exact H
  clear H
  have H := H1
  clear H1
  by_cases c6 : t111 = true
  ·subst c6
   have H1 : (some 0) = some r := by rw [if_pos rfl] at H; exact H
   clear H
   have H := H1
   clear H1
   obtain rfl := Option.some.inj H
   go_enter Try.func76, Try.ntmps76
   go_wp2_with (first | ((with_reducible refine gate_callee (f := 89) rfl ?_); refine gl (some 8) Try.func89 #[.int .i64 a0] ?_; (with_reducible refine (cmp_isNaN_int.calls a0 true _ A3.out).mono ?_); rintro e w' ⟨rfl, ⟨nd, rfl⟩⟩; refine ⟨_, rfl, ?_⟩) | ((with_reducible refine gate_callee (f := 89) rfl ?_); refine gl (some 10) Try.func89 #[.int .i64 a1] ?_; (with_reducible refine (cmp_isNaN_int.calls a1 true _ A4.out).mono ?_); rintro e w' ⟨rfl, ⟨nd, rfl⟩⟩; refine ⟨_, rfl, ?_⟩))
   go_ret
   exact ⟨by first | rfl | (simp; done) | (simp [*]; done), by repeat (first | exact Drawn0.refl _ | apply Drawn0.step)⟩
  ·replace c6 := Bool.eq_false_iff.mpr c6
   subst c6
   have H1 : (some (-1)) = some r := by rw [if_neg (show ¬ (false = true) by decide)] at H; exact H
   clear H
   have H := H1
   clear H1
   obtain rfl := Option.some.inj H
   go_enter Try.func76, Try.ntmps76
   go_wp2_with (first | ((with_reducible refine gate_callee (f := 89) rfl ?_); refine gl (some 8) Try.func89 #[.int .i64 a0] ?_; (with_reducible refine (cmp_isNaN_int.calls a0 true _ A3.out).mono ?_); rintro e w' ⟨rfl, ⟨nd, rfl⟩⟩; refine ⟨_, rfl, ?_⟩) | ((with_reducible refine gate_callee (f := 89) rfl ?_); refine gl (some 10) Try.func89 #[.int .i64 a1] ?_; (with_reducible refine (cmp_isNaN_int.calls a1 false _ A4.out).mono ?_); rintro e w' ⟨rfl, ⟨nd, rfl⟩⟩; refine ⟨_, rfl, ?_⟩))
   go_ret
   exact ⟨by first | rfl | (simp; done) | (simp [*]; done), by repeat (first | exact Drawn0.refl _ | apply Drawn0.step)⟩
 ·replace c5 := Bool.eq_false_iff.mpr c5
  subst c5
  have H1 : (if t111 = true then (some 1) else (if a0 < a1 then (some (-1)) else (if a0 > a1 then (some 1) else (some 0)))) = some r := by rw [if_neg (show ¬ (false = true) by decide)] at H; exact H
  clear H
  have H := H1
  clear H1
  by_cases c7 : t111 = true
  ·subst c7
   have H1 : (some 1) = some r := by rw [if_pos rfl] at H; exact H
   clear H
   have H := H1
   clear H1
   obtain rfl := Option.some.inj H
   go_enter Try.func76, Try.ntmps76
   go_wp2_with (first | ((with_reducible refine gate_callee (f := 89) rfl ?_); refine gl (some 8) Try.func89 #[.int .i64 a0] ?_; (with_reducible refine (cmp_isNaN_int.calls a0 false _ A3.out).mono ?_); rintro e w' ⟨rfl, ⟨nd, rfl⟩⟩; refine ⟨_, rfl, ?_⟩) | ((with_reducible refine gate_callee (f := 89) rfl ?_); refine gl (some 10) Try.func89 #[.int .i64 a1] ?_; (with_reducible refine (cmp_isNaN_int.calls a1 true _ A4.out).mono ?_); rintro e w' ⟨rfl, ⟨nd, rfl⟩⟩; refine ⟨_, rfl, ?_⟩))
   go_ret
   exact ⟨by first | rfl | (simp; done) | (simp [*]; done), by repeat (first | exact Drawn0.refl _ | apply Drawn0.step)⟩
  ·replace c7 := Bool.eq_false_iff.mpr c7
   subst c7
   have H1 : (if a0 < a1 then (some (-1)) else (if a0 > a1 then (some 1) else (some 0))) = some r := by rw [if_neg (show ¬ (false = true) by decide)] at H; exact H
   clear H
   have H := H1
   clear H1
   by_cases c8 : a0 < a1
   ·rw [if_pos c8] at H
    have c8b0 : decide (a0 < a1) = true := decide_eq_true c8
    clear c8
    obtain rfl := Option.some.inj H
    go_enter Try.func76, Try.ntmps76
    go_wp2_with (first | ((with_reducible refine gate_callee (f := 89) rfl ?_); refine gl (some 8) Try.func89 #[.int .i64 a0] ?_; (with_reducible refine (cmp_isNaN_int.calls a0 false _ A3.out).mono ?_); rintro e w' ⟨rfl, ⟨nd, rfl⟩⟩; refine ⟨_, rfl, ?_⟩) | ((with_reducible refine gate_callee (f := 89) rfl ?_); refine gl (some 10) Try.func89 #[.int .i64 a1] ?_; (with_reducible refine (cmp_isNaN_int.calls a1 false _ A4.out).mono ?_); rintro e w' ⟨rfl, ⟨nd, rfl⟩⟩; refine ⟨_, rfl, ?_⟩))
    go_ret
    exact ⟨by first | rfl | (simp; done) | (simp [*]; done), by repeat (first | exact Drawn0.refl _ | apply Drawn0.step)⟩
   ·rw [if_neg c8] at H
    have c8b0 : decide (a0 < a1) = false := decide_eq_false c8
    clear c8
    by_cases c9 : a0 > a1
    ·rw [if_pos c9] at H
     have c9b0 : decide (a1 < a0) = true := decide_eq_true c9
     clear c9
     obtain rfl := Option.some.inj H
     go_enter Try.func76, Try.ntmps76
     go_wp2_with (first | ((with_reducible refine gate_callee (f := 89) rfl ?_); refine gl (some 8) Try.func89 #[.int .i64 a0] ?_; (with_reducible refine (cmp_isNaN_int.calls a0 false _ A3.out).mono ?_); rintro e w' ⟨rfl, ⟨nd, rfl⟩⟩; refine ⟨_, rfl, ?_⟩) | ((with_reducible refine gate_callee (f := 89) rfl ?_); refine gl (some 10) Try.func89 #[.int .i64 a1] ?_; (with_reducible refine (cmp_isNaN_int.calls a1 false _ A4.out).mono ?_); rintro e w' ⟨rfl, ⟨nd, rfl⟩⟩; refine ⟨_, rfl, ?_⟩))
     go_ret
     exact ⟨by first | rfl | (simp; done) | (simp [*]; done), by repeat (first | exact Drawn0.refl _ | apply Drawn0.step)⟩
    ·rw [if_neg c9] at H
     have c9b0 : decide (a1 < a0) = false := decide_eq_false c9
     clear c9
     obtain rfl := Option.some.inj H
     go_enter Try.func76, Try.ntmps76
     go_wp2_with (first | ((with_reducible refine gate_callee (f := 89) rfl ?_); refine gl (some 8) Try.func89 #[.int .i64 a0] ?_; (with_reducible refine (cmp_isNaN_int.calls a0 false _ A3.out).mono ?_); rintro e w' ⟨rfl, ⟨nd, rfl⟩⟩; refine ⟨_, rfl, ?_⟩) | ((with_reducible refine gate_callee (f := 89) rfl ?_); refine gl (some 10) Try.func89 #[.int .i64 a1] ?_; (with_reducible refine (cmp_isNaN_int.calls a1 false _ A4.out).mono ?_); rintro e w' ⟨rfl, ⟨nd, rfl⟩⟩; refine ⟨_, rfl, ?_⟩))
     go_ret
     exact ⟨by first | rfl | (simp; done) | (simp [*]; done), by repeat (first | exact Drawn0.refl _ | apply Drawn0.step)⟩
end Go.Proofs.Ytgeldmhgbnamcaa.P
end
section
-- Printed by the session's own turn of the print (wip/tools/print2.sh): some callees are proved by hand.
namespace Go.Proofs.Ytgeldmhgbnamcaa.P
open Go.RowKit Go.Proofs.YtgeldmhgbnamcaaW.PrintWords Go.Proofs.YtgeldmhgbnamcaaW.PrintLast Go.Proofs.YtgeldmhgbnamcaaW.PrintMore
attribute [local go_sem] max2_int min2_int max_two min_two max_three min_three max_four min_four   -- for this text's walks alone
set_option linter.unusedVariables false
set_option linter.unusedSimpArgs false
/-! ### cmp_isNaN_uint64: function 90 -/
def cmp_isNaN_uint64.f (a0 : Int) : Option (Bool) := some (a0 != a0)
set_option maxHeartbeats 8000000 in
set_option maxRecDepth 100000 in
theorem cmp_isNaN_uint64.calls (a0 : Int) (r : Bool) (w : World) (h : cmp_isNaN_uint64.f a0 = some r) :
  Calls Try.prog 90 #[.int .u64 a0] w fun e w' => e = .returned (.bool r) ∧ Drawn0 w w' := by
 have H : (some (a0 != a0)) = some r := h
 clear h
 obtain rfl := Option.some.inj H
 go_enter Try.func90, Try.ntmps90
 go_wp2
 go_ret
 exact ⟨by first | rfl | (simp; done) | (simp [*]; done), by repeat (first | exact Drawn0.refl _ | apply Drawn0.step)⟩
end Go.Proofs.Ytgeldmhgbnamcaa.P
end
section
-- Printed by the session's own turn of the print (wip/tools/print2.sh): some callees are proved by hand.
namespace Go.Proofs.Ytgeldmhgbnamcaa.P
open Go.RowKit Go.Proofs.YtgeldmhgbnamcaaW.PrintWords Go.Proofs.YtgeldmhgbnamcaaW.PrintLast Go.Proofs.YtgeldmhgbnamcaaW.PrintMore
attribute [local go_sem] max2_int min2_int max_two min_two max_three min_three max_four min_four   -- for this text's walks alone
set_option linter.unusedVariables false
set_option linter.unusedSimpArgs false
/-! ### cmp_Compare_uint64: function 77 -/
def cmp_Compare_uint64.f (a0 : Int) (a1 : Int) : Option (Int) := (cmp_isNaN_uint64.f a0).bind fun t112 => ((cmp_isNaN_uint64.f a1).bind fun t113 => (if t112 = true then (if t113 = true then (some 0) else (some (-1))) else (if t113 = true then (some 1) else (if a0 < a1 then (some (-1)) else (if a0 > a1 then (some 1) else (some 0))))))
set_option maxHeartbeats 8000000 in
set_option maxRecDepth 100000 in
theorem cmp_Compare_uint64.calls (a0 : Int) (a1 : Int) (r : Int) (w : World) (h : cmp_Compare_uint64.f a0 a1 = some r) :
  Calls Try.prog 77 #[.int .u64 a0, .int .u64 a1] w fun e w' => e = .returned (.int .i64 r) ∧ Drawn0 w w' := by
 have H : ((cmp_isNaN_uint64.f a0).bind fun t112 => ((cmp_isNaN_uint64.f a1).bind fun t113 => (if t112 = true then (if t113 = true then (some 0) else (some (-1))) else (if t113 = true then (some 1) else (if a0 < a1 then (some (-1)) else (if a0 > a1 then (some 1) else (some 0))))))) = some r := h
 clear h
 replace H := Option.bind_eq_some_iff.mp H
 obtain ⟨t112, A30, H⟩ := H
 replace H : ((cmp_isNaN_uint64.f a1).bind fun t113 => (if t112 = true then (if t113 = true then (some 0) else (some (-1))) else (if t113 = true then (some 1) else (if a0 < a1 then (some (-1)) else (if a0 > a1 then (some 1) else (some 0)))))) = some r := H
 have A3 := Aside0.mk A30
 clear A30
 replace H := Option.bind_eq_some_iff.mp H
 obtain ⟨t113, A40, H⟩ := H
 replace H : (if t112 = true then (if t113 = true then (some 0) else (some (-1))) else (if t113 = true then (some 1) else (if a0 < a1 then (some (-1)) else (if a0 > a1 then (some 1) else (some 0))))) = some r := H
 have A4 := Aside0.mk A40
 clear A40
 by_cases c5 : t112 = true
 ·subst c5
  have H1 : (if t113 = true then (some 0) else (some (-1))) = some r := by rw [if_pos rfl] at H; exact H
  clear H
  have H := H1
  clear H1
  by_cases c6 : t113 = true
  ·subst c6
   have H1 : (some 0) = some r := by rw [if_pos rfl] at H; exact H
   clear H
   have H := H1
   clear H1
   obtain rfl := Option.some.inj H
   go_enter Try.func77, Try.ntmps77
   go_wp2_with (first | ((with_reducible refine gate_callee (f := 90) rfl ?_); refine gl (some 8) Try.func90 #[.int .u64 a0] ?_; (with_reducible refine (cmp_isNaN_uint64.calls a0 true _ A3.out).mono ?_); rintro e w' ⟨rfl, ⟨nd, rfl⟩⟩; refine ⟨_, rfl, ?_⟩) | ((with_reducible refine gate_callee (f := 90) rfl ?_); refine gl (some 10) Try.func90 #[.int .u64 a1] ?_; (with_reducible refine (cmp_isNaN_uint64.calls a1 true _ A4.out).mono ?_); rintro e w' ⟨rfl, ⟨nd, rfl⟩⟩; refine ⟨_, rfl, ?_⟩))
   go_ret
   exact ⟨by first | rfl | (simp; done) | (simp [*]; done), by repeat (first | exact Drawn0.refl _ | apply Drawn0.step)⟩
  ·replace c6 := Bool.eq_false_iff.mpr c6
   subst c6
   have H1 : (some (-1)) = some r := by rw [if_neg (show ¬ (false = true) by decide)] at H; exact H
   clear H
   have H := H1
   clear H1
   obtain rfl := Option.some.inj H
   go_enter Try.func77, Try.ntmps77
   go_wp2_with (first | ((with_reducible refine gate_callee (f := 90) rfl ?_); refine gl (some 8) Try.func90 #[.int .u64 a0] ?_; (with_reducible refine (cmp_isNaN_uint64.calls a0 true _ A3.out).mono ?_); rintro e w' ⟨rfl, ⟨nd, rfl⟩⟩; refine ⟨_, rfl, ?_⟩) | ((with_reducible refine gate_callee (f := 90) rfl ?_); refine gl (some 10) Try.func90 #[.int .u64 a1] ?_; (with_reducible refine (cmp_isNaN_uint64.calls a1 false _ A4.out).mono ?_); rintro e w' ⟨rfl, ⟨nd, rfl⟩⟩; refine ⟨_, rfl, ?_⟩))
   go_ret
   exact ⟨by first | rfl | (simp; done) | (simp [*]; done), by repeat (first | exact Drawn0.refl _ | apply Drawn0.step)⟩
 ·replace c5 := Bool.eq_false_iff.mpr c5
  subst c5
  have H1 : (if t113 = true then (some 1) else (if a0 < a1 then (some (-1)) else (if a0 > a1 then (some 1) else (some 0)))) = some r := by rw [if_neg (show ¬ (false = true) by decide)] at H; exact H
  clear H
  have H := H1
  clear H1
  by_cases c7 : t113 = true
  ·subst c7
   have H1 : (some 1) = some r := by rw [if_pos rfl] at H; exact H
   clear H
   have H := H1
   clear H1
   obtain rfl := Option.some.inj H
   go_enter Try.func77, Try.ntmps77
   go_wp2_with (first | ((with_reducible refine gate_callee (f := 90) rfl ?_); refine gl (some 8) Try.func90 #[.int .u64 a0] ?_; (with_reducible refine (cmp_isNaN_uint64.calls a0 false _ A3.out).mono ?_); rintro e w' ⟨rfl, ⟨nd, rfl⟩⟩; refine ⟨_, rfl, ?_⟩) | ((with_reducible refine gate_callee (f := 90) rfl ?_); refine gl (some 10) Try.func90 #[.int .u64 a1] ?_; (with_reducible refine (cmp_isNaN_uint64.calls a1 true _ A4.out).mono ?_); rintro e w' ⟨rfl, ⟨nd, rfl⟩⟩; refine ⟨_, rfl, ?_⟩))
   go_ret
   exact ⟨by first | rfl | (simp; done) | (simp [*]; done), by repeat (first | exact Drawn0.refl _ | apply Drawn0.step)⟩
  ·replace c7 := Bool.eq_false_iff.mpr c7
   subst c7
   have H1 : (if a0 < a1 then (some (-1)) else (if a0 > a1 then (some 1) else (some 0))) = some r := by rw [if_neg (show ¬ (false = true) by decide)] at H; exact H
   clear H
   have H := H1
   clear H1
   by_cases c8 : a0 < a1
   ·rw [if_pos c8] at H
    have c8b0 : decide (a0 < a1) = true := decide_eq_true c8
    clear c8
    obtain rfl := Option.some.inj H
    go_enter Try.func77, Try.ntmps77
    go_wp2_with (first | ((with_reducible refine gate_callee (f := 90) rfl ?_); refine gl (some 8) Try.func90 #[.int .u64 a0] ?_; (with_reducible refine (cmp_isNaN_uint64.calls a0 false _ A3.out).mono ?_); rintro e w' ⟨rfl, ⟨nd, rfl⟩⟩; refine ⟨_, rfl, ?_⟩) | ((with_reducible refine gate_callee (f := 90) rfl ?_); refine gl (some 10) Try.func90 #[.int .u64 a1] ?_; (with_reducible refine (cmp_isNaN_uint64.calls a1 false _ A4.out).mono ?_); rintro e w' ⟨rfl, ⟨nd, rfl⟩⟩; refine ⟨_, rfl, ?_⟩))
    go_ret
    exact ⟨by first | rfl | (simp; done) | (simp [*]; done), by repeat (first | exact Drawn0.refl _ | apply Drawn0.step)⟩
   ·rw [if_neg c8] at H
    have c8b0 : decide (a0 < a1) = false := decide_eq_false c8
    clear c8
    by_cases c9 : a0 > a1
    ·rw [if_pos c9] at H
     have c9b0 : decide (a1 < a0) = true := decide_eq_true c9
     clear c9
     obtain rfl := Option.some.inj H
     go_enter Try.func77, Try.ntmps77
     go_wp2_with (first | ((with_reducible refine gate_callee (f := 90) rfl ?_); refine gl (some 8) Try.func90 #[.int .u64 a0] ?_; (with_reducible refine (cmp_isNaN_uint64.calls a0 false _ A3.out).mono ?_); rintro e w' ⟨rfl, ⟨nd, rfl⟩⟩; refine ⟨_, rfl, ?_⟩) | ((with_reducible refine gate_callee (f := 90) rfl ?_); refine gl (some 10) Try.func90 #[.int .u64 a1] ?_; (with_reducible refine (cmp_isNaN_uint64.calls a1 false _ A4.out).mono ?_); rintro e w' ⟨rfl, ⟨nd, rfl⟩⟩; refine ⟨_, rfl, ?_⟩))
     go_ret
     exact ⟨by first | rfl | (simp; done) | (simp [*]; done), by repeat (first | exact Drawn0.refl _ | apply Drawn0.step)⟩
    ·rw [if_neg c9] at H
     have c9b0 : decide (a1 < a0) = false := decide_eq_false c9
     clear c9
     obtain rfl := Option.some.inj H
     go_enter Try.func77, Try.ntmps77
     go_wp2_with (first | ((with_reducible refine gate_callee (f := 90) rfl ?_); refine gl (some 8) Try.func90 #[.int .u64 a0] ?_; (with_reducible refine (cmp_isNaN_uint64.calls a0 false _ A3.out).mono ?_); rintro e w' ⟨rfl, ⟨nd, rfl⟩⟩; refine ⟨_, rfl, ?_⟩) | ((with_reducible refine gate_callee (f := 90) rfl ?_); refine gl (some 10) Try.func90 #[.int .u64 a1] ?_; (with_reducible refine (cmp_isNaN_uint64.calls a1 false _ A4.out).mono ?_); rintro e w' ⟨rfl, ⟨nd, rfl⟩⟩; refine ⟨_, rfl, ?_⟩))
     go_ret
     exact ⟨by first | rfl | (simp; done) | (simp [*]; done), by repeat (first | exact Drawn0.refl _ | apply Drawn0.step)⟩
end Go.Proofs.Ytgeldmhgbnamcaa.P
end
section
-- Printed by the session's own turn of the print (wip/tools/print2.sh): some callees are proved by hand.
namespace Go.Proofs.Ytgeldmhgbnamcaa.P
open Go.RowKit Go.Proofs.YtgeldmhgbnamcaaW.PrintWords Go.Proofs.YtgeldmhgbnamcaaW.PrintLast Go.Proofs.YtgeldmhgbnamcaaW.PrintMore
attribute [local go_sem] max2_int min2_int max_two min_two max_three min_three max_four min_four   -- for this text's walks alone
set_option linter.unusedVariables false
set_option linter.unusedSimpArgs false
/-! ### batch_order: function 53 -/
def batch_order.f (k : Nat) (a0_0 : Int) (a0_1 : Int) (a0_2 : Int) (a1_0 : Int) (a1_1 : Int) (a1_2 : Int) : Option (Int) := (cmp_Compare_int.f a0_0 a1_0).bind fun t116 => ((cmp_Compare_uint64.f a0_1 a1_1).bind fun t117 => ((cmp_Or_int.f k (([t116, t117] : List Int))).bind fun t121 => (some t121)))
theorem batch_order.mono : ∀ a0 a1 a2 a3 a4 a5 k, LeO (batch_order.f k a0 a1 a2 a3 a4 a5) (batch_order.f (k + 1) a0 a1 a2 a3 a4 a5) := by
 intro a0 a1 a2 a3 a4 a5 k
 unfold batch_order.f
 repeat' first
   | (with_reducible exact cmp_Or_int.mono _ _)
   | (with_reducible exact LeO.refl _)
   | (with_reducible exact LeO.none _)
   | (with_reducible refine LeO.ite ?_ ?_)
   | (with_reducible refine LeO.bind ?_ (fun _ => ?_))
   | exact cmp_Or_int.mono _ _
   | exact LeO.none _
   | refine LeO.ite ?_ ?_
   | refine LeO.bind ?_ (fun _ => ?_)
def batch_order.T1 : Bool × List (List Nat × List Nat) := (true, [([], []), ([0], [0]), ([], []), ([2], [2]), ([1, 3], [1, 3]), ([], []), ([5], [5]), ([], []), ([7], [7]), ([6, 8, 4], [6, 8]), ([4, 9], [4, 9]), ([10, 9], [10]), ([11, 11, 0, 1, 2, 3, 4, 5, 6, 7, 8, 9, 10, 11], [11])])
def batch_order.B1 : List Nat := [0, 1, 0, 4, 15, 0, 32, 0, 128, 511, 1023, 2047, 4095]
theorem batch_order.tab1 : rtab .any (opsOf Try.f53 1) = batch_order.T1 := by kernel_rfl
theorem batch_order.bits1 : waitsOk batch_order.T1.2 batch_order.B1 = true := by kernel_rfl
set_option maxHeartbeats 8000000 in
set_option maxRecDepth 100000 in
theorem batch_order.calls (k : Nat) (a0_0 : Int) (a0_1 : Int) (a0_2 : Int) (a1_0 : Int) (a1_1 : Int) (a1_2 : Int) (r : Int) (w : World) (h : batch_order.f k a0_0 a0_1 a0_2 a1_0 a1_1 a1_2 = some r) :
  Calls Try.prog 53 #[.agg #[.int .i64 a0_0, .int .u64 a0_1, .int .i64 a0_2], .agg #[.int .i64 a1_0, .int .u64 a1_1, .int .i64 a1_2]] w fun e w' => e = .returned (.int .i64 r) ∧ Below w.heap.size w w' := by
 have hu50 := Try.underlying50
 have HB := Aside0.mk (Below.refl w.heap.size w)
 have H : ((cmp_Compare_int.f a0_0 a1_0).bind fun t116 => ((cmp_Compare_uint64.f a0_1 a1_1).bind fun t117 => ((cmp_Or_int.f k (([t116, t117] : List Int))).bind fun t121 => (some t121)))) = some r := h
 clear h
 replace H := Option.bind_eq_some_iff.mp H
 obtain ⟨t116, A30, H⟩ := H
 replace H : ((cmp_Compare_uint64.f a0_1 a1_1).bind fun t117 => ((cmp_Or_int.f k (([t116, t117] : List Int))).bind fun t121 => (some t121))) = some r := H
 have A3 := Aside0.mk A30
 clear A30
 replace H := Option.bind_eq_some_iff.mp H
 obtain ⟨t117, A40, H⟩ := H
 replace H : ((cmp_Or_int.f k (([t116, t117] : List Int))).bind fun t121 => (some t121)) = some r := H
 have A4 := Aside0.mk A40
 clear A40
 obtain ⟨y118, hy118⟩ : ∃ y_ : List Int, y_ = (([t116, t117] : List Int)) := ⟨_, rfl⟩
 replace H : ((cmp_Or_int.f k y118).bind fun t121 => (some t121)) = some r := by first | (rw [hy118]; with_reducible exact H) | (have H2_ := (Option.bind_some _ _).symm.trans H; rw [hy118]; with_reducible exact H2_) | (have H2_ := (Option.bind_some _ _).symm.trans H; with_reducible exact H2_) | with_reducible exact H | (rw [hy118]; exact H) | exact H
 have Ny118 := Aside0.mk hy118
 clear hy118
 replace H := Option.bind_eq_some_iff.mp H
 obtain ⟨t121, A50, H⟩ := H
 replace H : (some t121) = some r := H
 have A5 := Aside0.mk A50
 clear A50
 obtain rfl := Option.some.inj H
 go_enter Try.func53, Try.ntmps53
 try go_wp2_with (first | ((with_reducible refine gate_dst (N := 2) rfl ?_); refine box_event ?hg (N := 2) ?hd (cs := #[.int .i64 a0_0, .int .u64 a0_1, .int .i64 a0_2]) (t := 50) ?hr ?_; (case hd => rfl); (case hg => rfl); (case hr => first | (go_simp; done) | (go_simp; rfl)); intro gb114 hg w6 hbox hb; have n1_ := Aside0.mk (hbox); have n2_ := Aside0.mk ((by rw [hg]; exact (below_size (bn HB)) : w.heap.size ≤ gb114)); have n3_ := Aside0.mk ((by rw [hg]; exact (below_size (bn HB)) : w.heap.size ≤ gb114)); replace HB := bb HB hb; have BK114 := n1_; have GW114 := n2_; have GE114 := n3_; clear n1_ n2_ n3_; clear hb hbox hg) | ((with_reducible refine gate_dst (N := 3) rfl ?_); refine box_event ?hg (N := 3) ?hd (cs := #[.int .i64 a1_0, .int .u64 a1_1, .int .i64 a1_2]) (t := 50) ?hr ?_; (case hd => rfl); (case hg => rfl); (case hr => first | (go_simp; done) | (go_simp; rfl)); intro gb115 hg w7 hbox hb; have n0_ := Aside0.mk (bkb BK114 hb); have n1_ := Aside0.mk (below_step (bn1 HB GE114) hb); have n2_ := Aside0.mk (hbox); have n3_ := Aside0.mk ((by rw [hg]; exact (below_size (bn1 HB GE114)) : w.heap.size ≤ gb115)); have n4_ := Aside0.mk ((by rw [hg]; exact (below_size (bn1 HB GE114)) : w.heap.size ≤ gb115)); have n5_ := Aside0.mk ((by rw [hg]; exact Nat.ne_of_lt (bkl BK114) : gb114 ≠ gb115)); have n6_ := Aside0.mk ((by rw [hg]; exact Nat.ne_of_gt (bkl BK114) : gb115 ≠ gb114)); clear BK114; clear HB; have BK114 := n0_; have HB := n1_; have BK115 := n2_; have GW115 := n3_; have GE115 := n4_; have NB114_115 := n5_; have NB115_114 := n6_; clear n0_ n1_ n2_ n3_ n4_ n5_ n6_; clear hb hbox hg))
 have n0_ := Aside0.mk (blk_drew BK114.out)
 have n1_ := Aside0.mk (blk_drew BK115.out)
 have n2_ := Aside0.mk (below_drew1 HB.out)
 clear BK114
 clear BK115
 clear HB
 have BK114 := n0_
 have BK115 := n1_
 have HB := n2_
 clear n0_ n1_ n2_
 refine start_ (n := 13) (S := fun w' => w'.cell? ⟨gb114, 0, none⟩ = some (.int .i64 a0_0) ∧ w'.cell? ⟨gb114, 1, none⟩ = some (.int .u64 a0_1) ∧ w'.cell? ⟨gb114, 2, none⟩ = some (.int .i64 a0_2) ∧ w'.cell? ⟨gb115, 0, none⟩ = some (.int .i64 a1_0) ∧ w'.cell? ⟨gb115, 1, none⟩ = some (.int .u64 a1_1) ∧ w'.cell? ⟨gb115, 2, none⟩ = some (.int .i64 a1_2)) (ds := []) (mk_ 0 13) (by kernel_rfl) rfl rfl ⟨(blk_cell BK114.out 0).trans rfl, (blk_cell BK114.out 1).trans rfl, (blk_cell BK114.out 2).trans rfl, (blk_cell BK115.out 0).trans rfl, (blk_cell BK115.out 1).trans rfl, (blk_cell BK115.out 2).trans rfl⟩ (fun hHeld => ?_); refine with_tabW batch_order.tab1 batch_order.bits1 (fun HT_ HW_ => ?_)
 generalize w7.drew = w8 at BK114 BK115 HB hHeld ⊢
 refine pv_ 0 5 (mk_ 1 12) HT_ ?_
 refine pv_ 2 7 #[true, false, true, false, false, false, false, false, false, false, false, false, false] HT_ ?_
 refine pv_ 5 10 #[true, false, true, false, false, true, false, false, false, false, false, false, false] HT_ ?_
 refine pv_ 7 12 #[true, false, true, false, false, true, false, true, false, false, false, false, false] HT_ ?_
 refine tv_ 1 6 #[true, true, true, false, false, true, false, true, false, false, false, false, false] HT_ HW_ hHeld (hy := by rintro w' ⟨s0, s1, s2, s3, s4, s5⟩; go_simp; with_reducible rfl) (h := ?_)
 refine tv_ 3 8 #[true, true, true, true, false, true, false, true, false, false, false, false, false] HT_ HW_ hHeld (hy := by rintro w' ⟨s0, s1, s2, s3, s4, s5⟩; go_simp; with_reducible rfl) (h := ?_)
 refine tv_ 6 11 #[true, true, true, true, false, true, true, true, false, false, false, false, false] HT_ HW_ hHeld (hy := by rintro w' ⟨s0, s1, s2, s3, s4, s5⟩; go_simp; with_reducible rfl) (h := ?_)
 refine tv_ 8 13 #[true, true, true, true, false, true, true, true, true, false, false, false, false] HT_ HW_ hHeld (hy := by rintro w' ⟨s0, s1, s2, s3, s4, s5⟩; go_simp; with_reducible rfl) (h := ?_)
 refine one_ (i := 4) (N := some 9) (mk_ 9 4) rfl rfl (one_of HT_.out (by kernel_rfl)) (by decide) (fun K hK => ?_)
 refine goes_ Try.func76 (by kernel_rfl) rfl #[.int .i64 a0_0, .int .i64 a1_0] (by rfl) rfl rfl (by (try simp only [List.map_toArray, List.map_cons, List.map_nil]); first | done | rfl | (simp only [List.length_drop, List.length_take]; rfl)) ?_
 with_reducible refine (cmp_Compare_int.calls a0_0 a1_0 t116 _ A3.out).mono ?_
 rintro e w' ⟨rfl, ⟨nd, rfl⟩⟩
 refine ⟨_, rfl, ?_⟩
 refine hK.out _ _ ⟨(blk_cell BK114.out 0).trans rfl, (blk_cell BK114.out 1).trans rfl, (blk_cell BK114.out 2).trans rfl, (blk_cell BK115.out 0).trans rfl, (blk_cell BK115.out 1).trans rfl, (blk_cell BK115.out 2).trans rfl⟩ (fun hHeld => ?_)
 clear hK K
 refine norm_ (a' := ?_) ?_ ?_
 rotate_left
 ·show Act.put _ (some 9) _ = _
  simp only [Act.put, List.setIfInBounds_toArray, List.set_cons_zero, List.set_cons_succ, i64_w, i32_w]
  rfl
 refine one_ (i := 9) (N := some 14) (mk_ 10 3) rfl rfl (one_of HT_.out (by kernel_rfl)) (by decide) (fun K hK => ?_)
 refine goes_ Try.func77 (by kernel_rfl) rfl #[.int .u64 a0_1, .int .u64 a1_1] (by rfl) rfl rfl (by (try simp only [List.map_toArray, List.map_cons, List.map_nil]); first | done | rfl | (simp only [List.length_drop, List.length_take]; rfl)) ?_
 with_reducible refine (cmp_Compare_uint64.calls a0_1 a1_1 t117 _ A4.out).mono ?_
 rintro e w' ⟨rfl, ⟨nd, rfl⟩⟩
 refine ⟨_, rfl, ?_⟩
 refine hK.out _ _ ⟨(blk_cell BK114.out 0).trans rfl, (blk_cell BK114.out 1).trans rfl, (blk_cell BK114.out 2).trans rfl, (blk_cell BK115.out 0).trans rfl, (blk_cell BK115.out 1).trans rfl, (blk_cell BK115.out 2).trans rfl⟩ (fun hHeld => ?_)
 clear hK K
 refine norm_ (a' := ?_) ?_ ?_
 rotate_left
 ·show Act.put _ (some 14) _ = _
  simp only [Act.put, List.setIfInBounds_toArray, List.set_cons_zero, List.set_cons_succ, i64_w, i32_w]
  rfl
 refine one_ (i := 10) (N := some 15) (mk_ 11 2) rfl rfl (one_of HT_.out (by kernel_rfl)) (by decide) (fun K hK => ?_)
 refine Kd.R_lit_step (Kd.int .i64) _ 3 ?hg (N := 15) ?hd (xs := ([t116, t117] : List Int)) (inner := [.int .i64 t116, .int .i64 t117]) (ok := fun _ => True) (okp := fun _ => True) ?hr ?hp (fun _ hk => hk) trivial (Below.refl _ _) (Nat.le_refl _) (by simp) ?_; (case hd => rfl); (case hg => rfl); (case hr => first | (go_simp; done) | (go_simp; rfl)); (case hp => exact (Reps.one (show Kd.M (Kd.int .i64) _ _ _ t116 [.int .i64 t116] from rfl) (Reps.one (show Kd.M (Kd.int .i64) _ _ _ t117 [.int .i64 t117] from rfl) (Reps.none _ _))))
 intro v119 w9 ho10 hb hg_ hnew_
 clear hg_ hnew_
 (first | rw [← Ny118.out] at ho10 | (simp only [Int.reduceToNat] at ho10; rw [← Ny118.out] at ho10))
 have n0_ := Aside0.mk (Kd.R_lower ho10 (below_size (bn2 HB GE114 GE115)))
 have n1_ := Aside0.mk (bkb BK114 hb)
 have n2_ := Aside0.mk (bkb BK115 hb)
 have n3_ := Aside0.mk (below_step (bn2 HB GE114 GE115) hb)
 clear BK114
 clear BK115
 clear HB
 have HO120 := n0_
 have BK114 := n1_
 have BK115 := n2_
 have HB := n3_
 clear n0_ n1_ n2_ n3_
 clear hb ho10
 obtain ⟨Ao11, co11, eo11⟩ := Kd.R_slice HO120.out
 (first | subst eo11 | (injection eo11 with f1_ f2_ f3_; have f4_ := f1_.symm; have f5_ := f3_.symm; clear f1_ f2_ f3_; subst f4_; subst f5_))
 refine hK.out _ _ ⟨(blk_cell BK114.out 0).trans rfl, (blk_cell BK114.out 1).trans rfl, (blk_cell BK114.out 2).trans rfl, (blk_cell BK115.out 0).trans rfl, (blk_cell BK115.out 1).trans rfl, (blk_cell BK115.out 2).trans rfl⟩ (fun hHeld => ?_)
 clear hK K
 refine norm_ (a' := ?_) ?_ ?_
 rotate_left
 ·show Act.put _ (some 15) _ = _
  simp only [Act.put, List.setIfInBounds_toArray, List.set_cons_zero, List.set_cons_succ, i64_w, i32_w]
  rfl
 refine one_ (i := 11) (N := some 16) (mk_ 12 1) rfl rfl (one_of HT_.out (by kernel_rfl)) (by decide) (fun K hK => ?_)
 refine goes_ Try.func75 (by kernel_rfl) rfl #[.slice Ao11 y118.length co11] (by rfl) rfl rfl (by (try simp only [List.map_toArray, List.map_cons, List.map_nil]); first | done | rfl | (simp only [List.length_drop, List.length_take]; rfl)) ?_
 with_reducible refine (cmp_Or_int.calls k _ _ y118 t121 _ ?side1 ?side2 A5.out).mono ?_
 (case side1 => exact rc HO120)
 (case side2 => exact rs HO120)
 rintro e w' ⟨rfl, ⟨nd, rfl⟩⟩
 refine ⟨_, rfl, ?_⟩
 refine hK.out _ _ ⟨(blk_cell BK114.out 0).trans rfl, (blk_cell BK114.out 1).trans rfl, (blk_cell BK114.out 2).trans rfl, (blk_cell BK115.out 0).trans rfl, (blk_cell BK115.out 1).trans rfl, (blk_cell BK115.out 2).trans rfl⟩ (fun hHeld => ?_)
 clear hK K
 refine norm_ (a' := ?_) ?_ ?_
 rotate_left
 ·show Act.put _ (some 16) _ = _
  simp only [Act.put, List.setIfInBounds_toArray, List.set_cons_zero, List.set_cons_succ, i64_w, i32_w]
  rfl
 refine pv_ 12 4 (mk_ 13 0) HT_ ?_
 refine done_ (done_of HT_.out (by kernel_rfl)) ?_
 try go_wp2
 go_ret
 exact ⟨by first | rfl | (simp [errW_none, errW_some] <;> rfl) | (simp [*, errW_none, errW_some] <;> rfl), bn2 HB GE114 GE115⟩
end Go.Proofs.Ytgeldmhgbnamcaa.P
end
section
/- slices.SortStableFunc of changes, by hand, of one change at most. (It stands in the place of the printed text of the same name where a claim needs no more of it.) -/
namespace Go.Proofs.Ytgeldmhgbnamcaa.P
open Go.RowKit Go.Proofs.YtgeldmhgbnamcaaW.PrintWords Go.Proofs.YtgeldmhgbnamcaaW.PrintLast Go.Proofs.YtgeldmhgbnamcaaW.PrintMore
set_option linter.unusedVariables false
set_option linter.unusedSimpArgs false
/-! ### batch_Change_74: function 74 -/
def batch_Change_74.f (k : Nat) (l0 : List (S50))  : Option ((List (S50))) := if l0.length ≤ 1 then some l0 else none
theorem batch_Change_74.mono : ∀ a0 k, LeO (batch_Change_74.f k a0) (batch_Change_74.f (k + 1) a0) := fun _ _ => LeO.refl _
theorem batch_Change_74.ins (s f : Value) (n : Int) (w : World) (hn : n ≤ 1) : Calls Try.prog 95 #[s, .int .i64 0, .int .i64 n, f] w fun e w' => e = .returned (.tuple #[]) ∧ w' = w := by
 have h1 : decide ((1 : Int) < n) = false := decide_eq_false (by omega)
 go_enter Try.func95, Try.ntmps95
 go_wp2
 refine wp_loop_rounds 1 ?_
 rw [rounds_succ]
 go_wp2
 first | go_end0 | ((try simp only [Exit.inBlock, Exit.then]); refine bodyPost_ret (results_none rfl _ _ _) rfl ?_)
 exact ⟨rfl, rfl⟩
theorem batch_Change_74.stable (s f : Value) (n : Int) (w : World) (hn : n ≤ 1) : Calls Try.prog 88 #[s, .int .i64 n, f] w fun e w' => e = .returned (.tuple #[]) ∧ w' = w := by
 have h1 : decide ((20 : Int) ≤ n) = false := decide_eq_false (by omega)
 have h2 : decide ((20 : Int) < n) = false := decide_eq_false (by omega)
 go_enter Try.func88, Try.ntmps88
 go_wp2
 refine wp_loop_rounds 1 ?_
 rw [rounds_succ]
 go_wp2_with (first | (go_at_call 95; (with_reducible refine (batch_Change_74.ins s f n _ hn).mono ?_); rintro e w' ⟨rfl, rfl⟩))
 refine wp_loop_rounds 1 ?_
 rw [rounds_succ]
 go_wp2
 first | go_end0 | ((try simp only [Exit.inBlock, Exit.then]); refine bodyPost_ret (results_none rfl _ _ _) rfl ?_)
 exact ⟨rfl, rfl⟩
theorem batch_Change_74.calls (k : Nat) (P0_ : Nat → Prop) (u9000_ : Value) (l0 : List (S50))  (r : List (S50)) (w0 w : World) (hB : Below w0.heap.size w0 w) (ho0 : Kd.R k50 50 w w0.heap.size P0_ u9000_ l0) (h : batch_Change_74.f k l0 = some r) :
  Calls Try.prog 74 #[u9000_, .func (.func 53) #[] #[]] w fun e w' => e = .returned (.tuple #[]) ∧ Kd.R k50 50 w' w0.heap.size (fun k_ => (P0_ k_ ∨ w.heap.size ≤ k_)) u9000_ r ∧ Below w0.heap.size w0 w' ∧ Kept w w' (fun k_ => P0_ k_) := by
 unfold batch_Change_74.f at h
 by_cases hl : l0.length ≤ 1
 ·rw [if_pos hl] at h
  obtain rfl := Option.some.inj h
  obtain ⟨A, c, rfl⟩ := Kd.R_slice ho0
  have HO := Aside0.mk ho0
  have HB := Aside0.mk hB
  clear ho0 hB h
  go_enter Try.func74, Try.ntmps74
  go_wp2_with (first | (go_at_call 88; (with_reducible refine (batch_Change_74.stable _ _ (l0.length : Int) _ (by omega)).mono ?_); rintro e w' ⟨rfl, rfl⟩))
  first | go_end0 | ((try simp only [Exit.inBlock, Exit.then]); refine bodyPost_ret (results_none rfl _ _ _) rfl ?_)
  exact ⟨rfl, Kd.R_mono HO.out (fun k_ hk => .inl hk), HB.out, Kept.refl _ _⟩
 ·rw [if_neg hl] at h; cases h
end Go.Proofs.Ytgeldmhgbnamcaa.P
end
