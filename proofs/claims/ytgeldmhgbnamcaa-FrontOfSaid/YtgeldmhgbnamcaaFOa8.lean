/- Walks and laws of several statements of this seat, joined into one text; no condition. -/
import Derived.Test.YtgeldmhgbnamcaaProg
import Derived.Below
import Derived.Deep.Draws
import Derived.Deep.AppendLies
import Derived.Maps.AppendAt
import Derived.OwnWalk
import Derived.Laws.BytesArg
import Derived.Laws.MakeOwn
import Derived.Laws.OwnMore
import Derived.Deep.OwnRows
import Derived.Tactics
import Derived.Lib.ConvBytes
import Derived.Laws.Slices
import Derived.WalkKit
import Derived.KernelRfl
import Derived.RowKit3
import Derived.Deep.LoopGhost
import Derived.Deep.QuietTactic
import Derived.BigQuiet
import Derived.WideLaws
import Derived.Deep.DeepCutAuto
import Derived.Deep.CutBlock
import Derived.Deep.RegionHeld3
import Derived.Laws.Rows
import Derived.Lib.AppendStr
import Derived.ArgAppend
import Derived.Laws.IdiomCopy
import Derived.OrdersHeld
import Derived.Laws.BitsLemmas
import Derived.RowKit
import Derived.Laws.StructEq
import Derived.LoopTactic
import Derived.Outline
import Derived.Laws.CopyOwn
import Derived.Deep.RegionLaw
import Derived.IntWalk
import Derived.Lib.BufferMore
import Derived.Test.YtgeldmhgbnamcaaFOa0
import Derived.Test.YtgeldmhgbnamcaaFOa1
import Derived.Test.YtgeldmhgbnamcaaFOa2
import Derived.Test.YtgeldmhgbnamcaaFOa7
import Derived.Test.YtgeldmhgbnamcaaFOa3
import Derived.Test.YtgeldmhgbnamcaaFOa4
import Derived.Test.YtgeldmhgbnamcaaFOa5
section
namespace Go.Proofs.Ytgeldmhgbnamcaa.P
open Go.RowKit Go.Proofs.YtgeldmhgbnamcaaW.PrintWords Go.Proofs.YtgeldmhgbnamcaaW.PrintLast Go.Proofs.YtgeldmhgbnamcaaW.PrintMore
attribute [local go_sem] max2_int min2_int max_two min_two max_three min_three max_four min_four   -- for this text's walks alone
set_option linter.unusedVariables false
set_option linter.unusedSimpArgs false
/-! ### batch_order: function 53 -/
def batch_order.f (k : Nat) (a0_0 : Int) (a0_1 : Int) (a0_2 : Int) (a1_0 : Int) (a1_1 : Int) (a1_2 : Int) : Option (Int) := (cmp_Compare_int.f a0_0 a1_0).bind fun t116 => ((cmp_Compare_uint64.f a0_1 a1_1).bind fun t117 => ((cmp_Or_int.f k (([t116, t117] : List Int))).bind fun t121 => (some t121)))
theorem batch_order.mono : ∀ a0 a1 a2 a3 a4 a5 k, LeO (batch_order.f k a0 a1 a2 a3 a4 a5) (batch_order.f (k + 1) a0 a1 a2 a3 a4 a5) := by
 intro a0 a1 a2 a3 a4 a5 k; unfold batch_order.f
 repeat' first
   | (with_reducible exact cmp_Or_int.mono _ _)
   | (with_reducible exact LeO.refl _)
   | (with_reducible exact LeO.none _)
   | (with_reducible refine LeO.ite ?_ ?_)
   | (with_reducible refine LeO.bind ?_ (fun _ => ?_))
   | exact cmp_Or_int.mono _ _
   | exact LeO.none _
   | refine LeO.ite ?_ ?_
   | refine LeO.bind ?_ (fun _ => ?_)
def batch_order.T1 : Bool × List (List Nat × List Nat) := (true, [([], []), ([0], [0]), ([], []), ([2], [2]), ([1, 3], [1, 3]), ([], []), ([5], [5]), ([], []), ([7], [7]), ([6, 8, 4], [6, 8]), ([4, 9], [4, 9]), ([10, 9], [10]), ([11, 11, 0, 1, 2, 3, 4, 5, 6, 7, 8, 9, 10, 11], [11])])
def batch_order.B1 : List Nat := [0, 1, 0, 4, 15, 0, 32, 0, 128, 511, 1023, 2047, 4095]
theorem batch_order.tab1 : rtab .any (opsOf Try.f53 1) = batch_order.T1 := by kernel_rfl
theorem batch_order.bits1 : waitsOk batch_order.T1.2 batch_order.B1 = true := by kernel_rfl
set_option maxHeartbeats 8000000 in
set_option maxRecDepth 100000 in
theorem batch_order.calls (k : Nat) (a0_0 : Int) (a0_1 : Int) (a0_2 : Int) (a1_0 : Int) (a1_1 : Int) (a1_2 : Int) (r : Int) (w : World) (h : batch_order.f k a0_0 a0_1 a0_2 a1_0 a1_1 a1_2 = some r) :
  Calls Try.prog 53 #[.agg #[.int .i64 a0_0, .int .u64 a0_1, .int .i64 a0_2], .agg #[.int .i64 a1_0, .int .u64 a1_1, .int .i64 a1_2]] w fun e w' => e = .returned (.int .i64 r) ∧ Below w.heap.size w w' := by
 (have hu50 := Try.underlying50); (have HB := Aside0.mk (Below.refl w.heap.size w)); (have H : ((cmp_Compare_int.f a0_0 a1_0).bind fun t116 => ((cmp_Compare_uint64.f a0_1 a1_1).bind fun t117 => ((cmp_Or_int.f k (([t116, t117] : List Int))).bind fun t121 => (some t121)))) = some r := h); clear h; (replace H := Option.bind_eq_some_iff.mp H); obtain ⟨t116, A30, H⟩ := H; (replace H : ((cmp_Compare_uint64.f a0_1 a1_1).bind fun t117 => ((cmp_Or_int.f k (([t116, t117] : List Int))).bind fun t121 => (some t121))) = some r := H); (have A3 := Aside0.mk A30); clear A30; (replace H := Option.bind_eq_some_iff.mp H); obtain ⟨t117, A40, H⟩ := H; (replace H : ((cmp_Or_int.f k (([t116, t117] : List Int))).bind fun t121 => (some t121)) = some r := H); (have A4 := Aside0.mk A40); clear A40; obtain ⟨y118, hy118⟩ : ∃ y_ : List Int, y_ = (([t116, t117] : List Int)) := ⟨_, rfl⟩; (replace H : ((cmp_Or_int.f k y118).bind fun t121 => (some t121)) = some r := by first | (rw [hy118]; with_reducible exact H) | (have H2_ := (Option.bind_some _ _).symm.trans H; rw [hy118]; with_reducible exact H2_) | (have H2_ := (Option.bind_some _ _).symm.trans H; with_reducible exact H2_) | with_reducible exact H | (rw [hy118]; exact H) | exact H); (have Ny118 := Aside0.mk hy118); clear hy118; (replace H := Option.bind_eq_some_iff.mp H); obtain ⟨t121, A50, H⟩ := H; (replace H : (some t121) = some r := H); (have A5 := Aside0.mk A50); clear A50; obtain rfl := Option.some.inj H; go_enter Try.func53, Try.ntmps53; (try go_wp2_with (first | ((with_reducible refine gate_dst (N := 2) rfl ?_); refine box_event ?hg (N := 2) ?hd (cs := #[.int .i64 a0_0, .int .u64 a0_1, .int .i64 a0_2]) (t := 50) ?hr ?_; (case hd => rfl); (case hg => rfl); (case hr => first | (go_simp; done) | (go_simp; rfl)); intro gb114 hg w6 hbox hb; have n1_ := Aside0.mk (hbox); have n2_ := Aside0.mk (gsz hg (bn HB)); have n3_ := Aside0.mk (gsz hg (bn HB)); replace HB := bb HB hb; have BK114 := n1_; have GW114 := n2_; have GE114 := n3_; clear n1_ n2_ n3_; clear hb hbox hg) | ((with_reducible refine gate_dst (N := 3) rfl ?_); refine box_event ?hg (N := 3) ?hd (cs := #[.int .i64 a1_0, .int .u64 a1_1, .int .i64 a1_2]) (t := 50) ?hr ?_; (case hd => rfl); (case hg => rfl); (case hr => first | (go_simp; done) | (go_simp; rfl)); intro gb115 hg w7 hbox hb; have n0_ := Aside0.mk (bkb BK114 hb); have n1_ := Aside0.mk (below_step (bn1 HB GE114) hb); have n2_ := Aside0.mk (hbox); have n3_ := Aside0.mk (gsz hg (bn1 HB GE114)); have n4_ := Aside0.mk (gsz hg (bn1 HB GE114)); have n5_ := Aside0.mk (gnl hg (bkl BK114)); have n6_ := Aside0.mk (gng hg (bkl BK114)); clear BK114; clear HB; have BK114 := n0_; have HB := n1_; have BK115 := n2_; have GW115 := n3_; have GE115 := n4_; have NB114_115 := n5_; have NB115_114 := n6_; clear n0_ n1_ n2_ n3_ n4_ n5_ n6_; clear hb hbox hg))); (have n0_ := Aside0.mk (blk_drew BK114.out)); (have n1_ := Aside0.mk (blk_drew BK115.out)); (have n2_ := Aside0.mk (below_drew1 HB.out)); clear BK114; clear BK115; clear HB; (have BK114 := n0_)
 (have BK115 := n1_); (have HB := n2_); clear n0_ n1_ n2_; (refine start_ (n := 13) (S := fun w' => w'.cell? ⟨gb114, 0, none⟩ = some (.int .i64 a0_0) ∧ w'.cell? ⟨gb114, 1, none⟩ = some (.int .u64 a0_1) ∧ w'.cell? ⟨gb114, 2, none⟩ = some (.int .i64 a0_2) ∧ w'.cell? ⟨gb115, 0, none⟩ = some (.int .i64 a1_0) ∧ w'.cell? ⟨gb115, 1, none⟩ = some (.int .u64 a1_1) ∧ w'.cell? ⟨gb115, 2, none⟩ = some (.int .i64 a1_2)) (ds := []) (mk_ 0 13) (by kernel_rfl) rfl rfl ⟨(blk_cell BK114.out 0).trans rfl, (blk_cell BK114.out 1).trans rfl, (blk_cell BK114.out 2).trans rfl, (blk_cell BK115.out 0).trans rfl, (blk_cell BK115.out 1).trans rfl, (blk_cell BK115.out 2).trans rfl⟩ (fun hHeld => ?_); refine with_tabW batch_order.tab1 batch_order.bits1 (fun HT_ HW_ => ?_)); generalize w7.drew = w8 at BK114 BK115 HB hHeld ⊢; refine pv_ 0 5 (mk_ 1 12) HT_ ?_; refine pv_ 2 7 (mb_ 13 5) HT_ ?_; refine pv_ 5 10 (mb_ 13 37) HT_ ?_; refine pv_ 7 12 (mb_ 13 165) HT_ ?_; (refine tv_ 1 6 (mb_ 13 167) HT_ HW_ hHeld (hy := by rintro w' ⟨s0, s1, s2, s3, s4, s5⟩; go_simp; with_reducible rfl) (h := ?_)); (refine tv_ 3 8 (mb_ 13 175) HT_ HW_ hHeld (hy := by rintro w' ⟨s0, s1, s2, s3, s4, s5⟩; go_simp; with_reducible rfl) (h := ?_)); (refine tv_ 6 11 (mb_ 13 239) HT_ HW_ hHeld (hy := by rintro w' ⟨s0, s1, s2, s3, s4, s5⟩; go_simp; with_reducible rfl) (h := ?_)); (refine tv_ 8 13 (mb_ 13 495) HT_ HW_ hHeld (hy := by rintro w' ⟨s0, s1, s2, s3, s4, s5⟩; go_simp; with_reducible rfl) (h := ?_)); (refine one_ (i := 4) (N := some 9) (mk_ 9 4) rfl rfl (one_of HT_.out (by kernel_rfl)) (by decide) (fun K hK => ?_)); refine goes_ Try.func76 (by kernel_rfl) rfl #[.int .i64 a0_0, .int .i64 a1_0] (by rfl) rfl rfl am_ ?_; (with_reducible refine (cmp_Compare_int.calls a0_0 a1_0 t116 _ A3.out).mono ?_); rintro e w' ⟨rfl, ⟨nd, rfl⟩⟩; refine ⟨_, rfl, ?_⟩; (refine hK.out _ _ ⟨(blk_cell BK114.out 0).trans rfl, (blk_cell BK114.out 1).trans rfl, (blk_cell BK114.out 2).trans rfl, (blk_cell BK115.out 0).trans rfl, (blk_cell BK115.out 1).trans rfl, (blk_cell BK115.out 2).trans rfl⟩ (fun hHeld => ?_)); clear hK K; refine norm_ (a' := ?_) ?_ ?_; rotate_left
 ·(show Act.put _ (some 9) _ = _); simp only [Act.put, List.setIfInBounds_toArray, List.set_cons_zero, List.set_cons_succ, i64_w, i32_w]; rfl
 (refine one_ (i := 9) (N := some 14) (mk_ 10 3) rfl rfl (one_of HT_.out (by kernel_rfl)) (by decide) (fun K hK => ?_)); refine goes_ Try.func77 (by kernel_rfl) rfl #[.int .u64 a0_1, .int .u64 a1_1] (by rfl) rfl rfl am_ ?_; (with_reducible refine (cmp_Compare_uint64.calls a0_1 a1_1 t117 _ A4.out).mono ?_); rintro e w' ⟨rfl, ⟨nd, rfl⟩⟩; refine ⟨_, rfl, ?_⟩; (refine hK.out _ _ ⟨(blk_cell BK114.out 0).trans rfl, (blk_cell BK114.out 1).trans rfl, (blk_cell BK114.out 2).trans rfl, (blk_cell BK115.out 0).trans rfl, (blk_cell BK115.out 1).trans rfl, (blk_cell BK115.out 2).trans rfl⟩ (fun hHeld => ?_)); clear hK K; refine norm_ (a' := ?_) ?_ ?_; rotate_left
 ·(show Act.put _ (some 14) _ = _); simp only [Act.put, List.setIfInBounds_toArray, List.set_cons_zero, List.set_cons_succ, i64_w, i32_w]; rfl
 (refine one_ (i := 10) (N := some 15) (mk_ 11 2) rfl rfl (one_of HT_.out (by kernel_rfl)) (by decide) (fun K hK => ?_)); (refine Kd.R_lit_step (Kd.int .i64) _ 3 ?hg (N := 15) ?hd (xs := ([t116, t117] : List Int)) (inner := [.int .i64 t116, .int .i64 t117]) (ok := fun _ => True) (okp := fun _ => True) ?hr ?hp (fun _ hk => hk) trivial (Below.refl _ _) (Nat.le_refl _) (by simp) ?_; (case hd => rfl); (case hg => rfl); (case hr => first | (go_simp; done) | (go_simp; rfl)); (case hp => exact (Reps.one (show Kd.M (Kd.int .i64) _ _ _ t116 [.int .i64 t116] from rfl) (Reps.one (show Kd.M (Kd.int .i64) _ _ _ t117 [.int .i64 t117] from rfl) (Reps.none _ _))))); intro v119 w9 ho10 hb hg_ hnew_; clear hg_ hnew_; (first | rw [← Ny118.out] at ho10 | (simp only [Int.reduceToNat] at ho10; rw [← Ny118.out] at ho10)); (have n0_ := Aside0.mk (Kd.R_lower ho10 (below_size (bn2 HB GE114 GE115)))); (have n1_ := Aside0.mk (bkb BK114 hb)); (have n2_ := Aside0.mk (bkb BK115 hb)); (have n3_ := Aside0.mk (below_step (bn2 HB GE114 GE115) hb)); clear BK114; clear BK115; clear HB; (have HO120 := n0_); (have BK114 := n1_); (have BK115 := n2_); (have HB := n3_); clear n0_ n1_ n2_ n3_; clear hb ho10; obtain ⟨Ao11, co11, eo11⟩ := Kd.R_slice HO120.out; (first | subst eo11 | (injection eo11 with f1_ f2_ f3_; have f4_ := f1_.symm; have f5_ := f3_.symm; clear f1_ f2_ f3_; subst f4_; subst f5_)); (refine hK.out _ _ ⟨(blk_cell BK114.out 0).trans rfl, (blk_cell BK114.out 1).trans rfl, (blk_cell BK114.out 2).trans rfl, (blk_cell BK115.out 0).trans rfl, (blk_cell BK115.out 1).trans rfl, (blk_cell BK115.out 2).trans rfl⟩ (fun hHeld => ?_)); clear hK K; refine norm_ (a' := ?_) ?_ ?_; rotate_left
 ·(show Act.put _ (some 15) _ = _); simp only [Act.put, List.setIfInBounds_toArray, List.set_cons_zero, List.set_cons_succ, i64_w, i32_w]; rfl
 (refine one_ (i := 11) (N := some 16) (mk_ 12 1) rfl rfl (one_of HT_.out (by kernel_rfl)) (by decide) (fun K hK => ?_)); refine goes_ Try.func75 (by kernel_rfl) rfl #[.slice Ao11 y118.length co11] (by rfl) rfl rfl am_ ?_; (with_reducible refine (cmp_Or_int.calls k _ _ y118 t121 _ ?side1 ?side2 A5.out).mono ?_); (case side1 => exact rc HO120); (case side2 => exact rs HO120); rintro e w' ⟨rfl, ⟨nd, rfl⟩⟩; refine ⟨_, rfl, ?_⟩; (refine hK.out _ _ ⟨(blk_cell BK114.out 0).trans rfl, (blk_cell BK114.out 1).trans rfl, (blk_cell BK114.out 2).trans rfl, (blk_cell BK115.out 0).trans rfl, (blk_cell BK115.out 1).trans rfl, (blk_cell BK115.out 2).trans rfl⟩ (fun hHeld => ?_)); clear hK K; refine norm_ (a' := ?_) ?_ ?_; rotate_left
 ·(show Act.put _ (some 16) _ = _); simp only [Act.put, List.setIfInBounds_toArray, List.set_cons_zero, List.set_cons_succ, i64_w, i32_w]; rfl
 refine pv_ 12 4 (mk_ 13 0) HT_ ?_; refine done_ (done_of HT_.out (by kernel_rfl)) ?_; (try go_wp2); go_ret; (exact ⟨by first | rfl | (simp [errW_none, errW_some] <;> rfl) | (simp [*, errW_none, errW_some] <;> rfl), bn2 HB GE114 GE115⟩)
end Go.Proofs.Ytgeldmhgbnamcaa.P
end
section
/- slices.SortStableFunc of changes, by hand, of one change at most. (It stands in the place of the printed text of the same name where a claim needs no more of it.) -/
namespace Go.Proofs.Ytgeldmhgbnamcaa.P
open Go.RowKit Go.Proofs.YtgeldmhgbnamcaaW.PrintWords Go.Proofs.YtgeldmhgbnamcaaW.PrintLast Go.Proofs.YtgeldmhgbnamcaaW.PrintMore
set_option linter.unusedVariables false
set_option linter.unusedSimpArgs false
/-! ### batch_Change_74: function 74 -/
def batch_Change_74.f (k : Nat) (l0 : List (S50))  : Option ((List (S50))) := if l0.length ≤ 1 then some l0 else none
theorem batch_Change_74.mono : ∀ a0 k, LeO (batch_Change_74.f k a0) (batch_Change_74.f (k + 1) a0) := fun _ _ => LeO.refl _
theorem batch_Change_74.ins (s f : Value) (n : Int) (w : World) (hn : n ≤ 1) : Calls Try.prog 95 #[s, .int .i64 0, .int .i64 n, f] w fun e w' => e = .returned (.tuple #[]) ∧ w' = w := by
 (have h1 : decide ((1 : Int) < n) = false := decide_eq_false (by omega)); go_enter Try.func95, Try.ntmps95; go_wp2; refine wp_loop_rounds 1 ?_; rw [rounds_succ]; go_wp2; (first | go_end0 | ((try simp only [Exit.inBlock, Exit.then]); refine bodyPost_ret (results_none rfl _ _ _) rfl ?_)); (exact ⟨rfl, rfl⟩)
theorem batch_Change_74.stable (s f : Value) (n : Int) (w : World) (hn : n ≤ 1) : Calls Try.prog 88 #[s, .int .i64 n, f] w fun e w' => e = .returned (.tuple #[]) ∧ w' = w := by
 (have h1 : decide ((20 : Int) ≤ n) = false := decide_eq_false (by omega)); (have h2 : decide ((20 : Int) < n) = false := decide_eq_false (by omega)); go_enter Try.func88, Try.ntmps88; go_wp2; refine wp_loop_rounds 1 ?_; rw [rounds_succ]; (go_wp2_with (first | (go_at_call 95; (with_reducible refine (batch_Change_74.ins s f n _ hn).mono ?_); rintro e w' ⟨rfl, rfl⟩))); refine wp_loop_rounds 1 ?_; rw [rounds_succ]; go_wp2; (first | go_end0 | ((try simp only [Exit.inBlock, Exit.then]); refine bodyPost_ret (results_none rfl _ _ _) rfl ?_)); (exact ⟨rfl, rfl⟩)
theorem batch_Change_74.calls (k : Nat) (P0_ : Nat → Prop) (u9000_ : Value) (l0 : List (S50))  (r : List (S50)) (w0 w : World) (hB : Below w0.heap.size w0 w) (ho0 : Kd.R k50 50 w w0.heap.size P0_ u9000_ l0) (h : batch_Change_74.f k l0 = some r) :
  Calls Try.prog 74 #[u9000_, .func (.func 53) #[] #[]] w fun e w' => e = .returned (.tuple #[]) ∧ Kd.R k50 50 w' w0.heap.size (fun k_ => (P0_ k_ ∨ w.heap.size ≤ k_)) u9000_ r ∧ Below w0.heap.size w0 w' ∧ Kept w w' (fun k_ => P0_ k_) := by
 unfold batch_Change_74.f at h; by_cases hl : l0.length ≤ 1
 ·rw [if_pos hl] at h; obtain rfl := Option.some.inj h; obtain ⟨A, c, rfl⟩ := Kd.R_slice ho0; (have HO := Aside0.mk ho0); (have HB := Aside0.mk hB); clear ho0 hB h; go_enter Try.func74, Try.ntmps74; (go_wp2_with (first | (go_at_call 88; (with_reducible refine (batch_Change_74.stable _ _ (l0.length : Int) _ (by omega)).mono ?_); rintro e w' ⟨rfl, rfl⟩))); (first | go_end0 | ((try simp only [Exit.inBlock, Exit.then]); refine bodyPost_ret (results_none rfl _ _ _) rfl ?_)); (exact ⟨rfl, Kd.R_mono HO.out (fun k_ hk => .inl hk), HB.out, Kept.refl _ _⟩)
 ·(rw [if_neg hl] at h; cases h)
/-! ### batch_summed: function 49 -/
mutual
def batch_summed.l0 : Nat → List (S50) → List (S50) → Int → Option ((List (S50)) × Int × (List (S50)))
 | 0, _, _, _ => none
 | k + 1, x0, x4, x5 => if x5 < (x0.length : Int) then (if 0 ≤ x5 then (batch_summed.l1 k x0 x4 (wrap64 (x5 + 1)) ((rd_T50 x0 x5).f0) ((rd_T50 x0 x5).f1) ((rd_T50 x0 x5).f2)) else (none)) else (some (x4, 0, x0))
def batch_summed.j2 : Nat → List (S50) → List (S50) → Int → Int → Int → Int → Option ((List (S50)) × Int × (List (S50)))
 | 0, _, _, _, _, _, _ => none
 | k + 1, x0, x4, x5, x165000, x165001, x165002 => (batch_within.f x165002).bind fun t168 => (if t168 = true then (if x165002 = 0 then (batch_summed.l0 k x0 x4 x5) else (if x4.length < 5864062014805 then (batch_summed.l0 k x0 (x4 ++ [(⟨x165000, x165001, x165002⟩ : S50)]) x5) else (none))) else (some (([] : List (S50)), 10, x0)))
def batch_summed.l1 : Nat → List (S50) → List (S50) → Int → Int → Int → Int → Option ((List (S50)) × Int × (List (S50)))
 | 0, _, _, _, _, _, _ => none
 | k + 1, x0, x4, x5, x165000, x165001, x165002 => if x5 < (x0.length : Int) then (if 0 ≤ x5 then ((batch_order.f k ((rd_T50 x0 x5).f0) ((rd_T50 x0 x5).f1) ((rd_T50 x0 x5).f2) x165000 x165001 x165002).bind fun t166 => (if t166 = 0 then (batch_summed.l1 k x0 x4 (wrap64 (x5 + 1)) x165000 x165001 (wrap64 (x165002 + ((rd_T50 x0 x5).f2)))) else (batch_summed.j2 k x0 x4 x5 x165000 x165001 x165002))) else (none)) else (batch_summed.j2 k x0 x4 x5 x165000 x165001 x165002)
end
def batch_summed.f (k : Nat) (l0 : List (S50)) : Option ((List (S50)) × Int × (List (S50))) := (batch_Change_74.f k l0).bind fun t162 => (batch_summed.l0 k t162 ([] : List (S50)) 0)
theorem batch_summed.mono_l : ∀ k, (∀ y0 y1 y2, LeO (batch_summed.l0 k y0 y1 y2) (batch_summed.l0 (k + 1) y0 y1 y2)) ∧ (∀ y0 y1 y2 y3 y4 y5, LeO (batch_summed.j2 k y0 y1 y2 y3 y4 y5) (batch_summed.j2 (k + 1) y0 y1 y2 y3 y4 y5)) ∧ (∀ y0 y1 y2 y3 y4 y5, LeO (batch_summed.l1 k y0 y1 y2 y3 y4 y5) (batch_summed.l1 (k + 1) y0 y1 y2 y3 y4 y5))
 | 0 => ⟨fun _ _ _ r h => by simp [batch_summed.l0] at h, fun _ _ _ _ _ _ r h => by simp [batch_summed.j2] at h, fun _ _ _ _ _ _ r h => by simp [batch_summed.l1] at h⟩
 | k + 1 => by
  obtain ⟨ih0, ih1, ih2⟩ := batch_summed.mono_l k; refine ⟨?_, ?_, ?_⟩
  ·intro y0 y1 y2; unfold batch_summed.l0
   repeat' first
   | (with_reducible exact ih0 _ _ _)
   | (with_reducible exact ih1 _ _ _ _ _ _)
   | (with_reducible exact ih2 _ _ _ _ _ _)
   | (with_reducible exact batch_Change_74.mono _ _)
   | (with_reducible exact batch_order.mono _ _ _ _ _ _ _)
   | (with_reducible exact LeO.refl _)
   | (with_reducible exact LeO.none _)
   | (with_reducible refine LeO.ite ?_ ?_)
   | (with_reducible refine LeO.bind ?_ (fun _ => ?_))
   | exact ih0 _ _ _
   | exact ih1 _ _ _ _ _ _
   | exact ih2 _ _ _ _ _ _
   | exact batch_Change_74.mono _ _
   | exact batch_order.mono _ _ _ _ _ _ _
   | exact LeO.none _
   | refine LeO.ite ?_ ?_
   | refine LeO.bind ?_ (fun _ => ?_)
  ·intro y0 y1 y2 y3 y4 y5; unfold batch_summed.j2
   repeat' first
   | (with_reducible exact ih0 _ _ _)
   | (with_reducible exact ih1 _ _ _ _ _ _)
   | (with_reducible exact ih2 _ _ _ _ _ _)
   | (with_reducible exact batch_Change_74.mono _ _)
   | (with_reducible exact batch_order.mono _ _ _ _ _ _ _)
   | (with_reducible exact LeO.refl _)
   | (with_reducible exact LeO.none _)
   | (with_reducible refine LeO.ite ?_ ?_)
   | (with_reducible refine LeO.bind ?_ (fun _ => ?_))
   | exact ih0 _ _ _
   | exact ih1 _ _ _ _ _ _
   | exact ih2 _ _ _ _ _ _
   | exact batch_Change_74.mono _ _
   | exact batch_order.mono _ _ _ _ _ _ _
   | exact LeO.none _
   | refine LeO.ite ?_ ?_
   | refine LeO.bind ?_ (fun _ => ?_)
  ·intro y0 y1 y2 y3 y4 y5; unfold batch_summed.l1
   repeat' first
   | (with_reducible exact ih0 _ _ _)
   | (with_reducible exact ih1 _ _ _ _ _ _)
   | (with_reducible exact ih2 _ _ _ _ _ _)
   | (with_reducible exact batch_Change_74.mono _ _)
   | (with_reducible exact batch_order.mono _ _ _ _ _ _ _)
   | (with_reducible exact LeO.refl _)
   | (with_reducible exact LeO.none _)
   | (with_reducible refine LeO.ite ?_ ?_)
   | (with_reducible refine LeO.bind ?_ (fun _ => ?_))
   | exact ih0 _ _ _
   | exact ih1 _ _ _ _ _ _
   | exact ih2 _ _ _ _ _ _
   | exact batch_Change_74.mono _ _
   | exact batch_order.mono _ _ _ _ _ _ _
   | exact LeO.none _
   | refine LeO.ite ?_ ?_
   | refine LeO.bind ?_ (fun _ => ?_)
theorem batch_summed.mono : ∀ a0 k, LeO (batch_summed.f k a0) (batch_summed.f (k + 1) a0) := by
 intro a0 k; obtain ⟨ih0, ih1, ih2⟩ := batch_summed.mono_l k; unfold batch_summed.f
 repeat' first
   | (with_reducible exact ih0 _ _ _)
   | (with_reducible exact ih1 _ _ _ _ _ _)
   | (with_reducible exact ih2 _ _ _ _ _ _)
   | (with_reducible exact batch_Change_74.mono _ _)
   | (with_reducible exact batch_order.mono _ _ _ _ _ _ _)
   | (with_reducible exact LeO.refl _)
   | (with_reducible exact LeO.none _)
   | (with_reducible refine LeO.ite ?_ ?_)
   | (with_reducible refine LeO.bind ?_ (fun _ => ?_))
   | exact ih0 _ _ _
   | exact ih1 _ _ _ _ _ _
   | exact ih2 _ _ _ _ _ _
   | exact batch_Change_74.mono _ _
   | exact batch_order.mono _ _ _ _ _ _ _
   | exact LeO.none _
   | refine LeO.ite ?_ ?_
   | refine LeO.bind ?_ (fun _ => ?_)
def batch_summed.T7 : Bool × List (List Nat × List Nat) := (true, [([], []), ([], []), ([1], [1]), ([0, 2], [0, 2]), ([3], [3]), ([4], [4]), ([4], [4]), ([5, 6, 4], [4, 5, 6]), ([7, 4], [4, 7]), ([4], [4]), ([8, 9, 4, 4], [4, 8, 9]), ([10, 4], [4, 10]), ([4, 11], [4, 11])])
def batch_summed.B7 : List Nat := [0, 0, 2, 7, 15, 31, 31, 127, 255, 31, 1023, 2047, 4095]
theorem batch_summed.tab7 : rtab .any (opsOf Try.f49 7) = batch_summed.T7 := by kernel_rfl
theorem batch_summed.bits7 : waitsOk batch_summed.T7.2 batch_summed.B7 = true := by kernel_rfl
def batch_summed.T9 : Bool × List (List Nat × List Nat) := (true, [([], []), ([0], [0]), ([], []), ([], []), ([2, 3], [2, 3]), ([4], [4]), ([5], [5]), ([1, 6], [1, 6]), ([0, 1, 2, 3, 4, 5, 6, 7], []), ([8, 7, 0, 1, 2, 3, 4, 5, 6, 7], [7, 8])])
def batch_summed.B9 : List Nat := [0, 1, 0, 0, 12, 28, 60, 127, 255, 511]
theorem batch_summed.tab9 : rtab .any (opsOf Try.f49 9) = batch_summed.T9 := by kernel_rfl
theorem batch_summed.bits9 : waitsOk batch_summed.T9.2 batch_summed.B9 = true := by kernel_rfl
set_option maxHeartbeats 8000000 in
set_option maxRecDepth 100000 in
theorem batch_summed.calls (k : Nat) (P0_ : Nat → Prop) (u9000_ : Value) (l0 : List (S50)) (r1 : List (S50)) (r2 : Int) (r3 : List (S50)) (w0 w : World) (hB : Below w0.heap.size w0 w) (ho0 : Kd.R k50 50 w w0.heap.size P0_ u9000_ l0) (h : batch_summed.f k l0 = some (r1, r2, r3)) :
  Calls Try.prog 49 #[u9000_] w fun e w' => ∃ v0_ : Value, e = .returned (.tuple #[v0_, .int .i64 r2]) ∧ Kd.R k50 50 w' w0.heap.size (fun k_ => (P0_ k_ ∨ w.heap.size ≤ k_) ∧ some k_ ≠ (u9000_ : Value).ownBlock) v0_ r1 ∧ Kd.R k50 50 w' w0.heap.size (fun k_ => (P0_ k_ ∨ w.heap.size ≤ k_)) u9000_ r3 ∧ Below w0.heap.size w0 w' ∧ Kept w w' (fun k_ => P0_ k_) := by
 (have hu50 := Try.underlying50); (have HO0 := Aside0.mk (show Kd.R k50 50 w w0.heap.size (fun k_ => (P0_ k_ ∨ w.heap.size ≤ k_)) u9000_ l0 from Kd.R_mono ho0 (fun k_ hk => (.inl hk)))); (have HK := Aside0.mk (Kept.refl w (fun k_ => P0_ k_))); (have HW0 := Aside0.mk hB.size); (have HB := Aside0.mk hB); clear hB; (have H : ((batch_Change_74.f k l0).bind fun t162 => (batch_summed.l0 k t162 ([] : List (S50)) 0)) = some (r1, r2, r3) := h); clear h; (replace H := Option.bind_eq_some_iff.mp H); obtain ⟨t162, A20, H⟩ := H; (replace H : (batch_summed.l0 k t162 ([] : List (S50)) 0) = some (r1, r2, r3) := H); (have A2 := Aside0.mk A20); clear A20; (have H' := Aside0.mk H); clear H; obtain ⟨Ao3, co3, eo3⟩ := Kd.R_slice HO0.out; subst eo3; go_enter Try.func49, Try.ntmps49; (go_wp2_with (first | ((with_reducible refine gate_callee (f := 74) rfl ?_); refine gl (some 8) Try.func74 #[.slice Ao3 l0.length co3, .func (.func 53) #[] #[]] ?_; (with_reducible refine (batch_Change_74.calls k (fun k_ => some k_ = (.slice Ao3 l0.length co3 : Value).ownBlock) (.slice Ao3 l0.length co3) l0  t162 w0 _ ?side1 ?side2 A2.out).mono ?_); (case side1 => repeat (first | (with_reducible first | exact HB.out | apply below_alloc | apply pw_below_drewN | apply below_drew1) | exact HB.out)); (case side2 => exact Kd.R_tight rfl HO0.out); rintro e w4 ⟨rfl, hy0, hb, hkp⟩; refine ⟨_, rfl, ?_⟩; have n0_ := Aside0.mk (Kd.R_reok rfl hy0 (fun k_ e_ => HO0.out.1 k_ e_)); have n1_ := Aside0.mk (Kept.then_ (S := (fun k_ => P0_ k_)) (by repeat (first | (with_reducible first | exact HK.out | apply Kept.alloc | apply Kept.drewN | apply Kept.drew) | exact HK.out)) hkp (fun k_ hs_ => (fun e_ => (HO0.out.1 k_ e_.symm)) hs_)); have n2_ := Aside0.mk (hb); clear HO0; clear HK; clear HB; have HO0 := n0_; have HK := n1_; have HB := n2_; clear n0_ n1_ n2_; (try clear hb); (try clear hkp); (try clear hy0)))); (go_loopg [4, 5] k (fun kq v4 v5 w' => ∃ (x4_1 : List (S50)) (x5_1 : Int), v5 = .int .i64 x5_1 ∧ Aside0 (batch_summed.l0 kq t162 x4_1 x5_1 = some (r1, r2, r3)) ∧ Aside0 (kq ≤ k) ∧ Aside0 (Kd.R k50 50 w' w0.heap.size (fun k_ => (P0_ k_ ∨ w.heap.size ≤ k_) ∧ some k_ ≠ (v4 : Value).ownBlock) (.slice Ao3 l0.length co3) t162) ∧ Aside0 (Kd.R k50 50 w' w0.heap.size (fun k_ => (P0_ k_ ∨ w.heap.size ≤ k_) ∧ some k_ ≠ ((.slice Ao3 l0.length co3) : Value).ownBlock) v4 x4_1) ∧ Aside0 (Kept w w' (fun k_ => P0_ k_)) ∧ Aside0 (Below w0.heap.size w0 w')))
 case atStart => exact ⟨(([] : List (S50))), (0), qr_, H', ⟨Nat.le_refl _⟩, ⟨by (with_reducible repeat (first | apply Kd.R_alloc | apply Kd.R_drewN | apply Kd.R_drew)); exact Kd.R_mono HO0.out (fun _ hk => ⟨hk, (by simp [Value.ownBlock])⟩)⟩, ⟨by first | exact Kd.R_nil _ _ _ _ _ | exact Kd.N_nil _ _ _ _ _ | exact Kd.V_nil _ _ _ _ _ | exact Kd.Q_nil _ _ _ _ _ | exact Kd.S_nil _ _ _ _ _⟩, ⟨by repeat (first | (with_reducible first | exact HK.out | apply Kept.alloc | apply Kept.drewN | apply Kept.drew) | exact HK.out)⟩, ⟨bn HB⟩⟩
 case round =>
  clear H'; obtain ⟨x4_1, x5_1, rfl, HA, HK1, HO_0, HO_4, HK, HB⟩ := hrel; (have hl0_1 := (Kd.R_reads' HO_0.out).1); rw [hl0_1] at HO_0; (try simp only [hl0_1]); (try simp only [hl0_1] at HO_4)
  cases gk with
  | zero => exact absurd HA.out (by simp [batch_summed.l0])
  | succ k1 =>
   (have H := HA.out); clear HA; simp only [batch_summed.l0] at H; by_cases c5 : x5_1 < (t162.length : Int)
   ·rw [if_pos c5] at H; (have c5b0 : decide (x5_1 < (t162.length : Int)) = true := decide_eq_true c5); clear c5; by_cases c6 : 0 ≤ x5_1
    ·rw [if_pos c6] at H; (have c6b0 : decide (0 ≤ x5_1) = true := decide_eq_true c6); clear c6; (have HC7 := Aside0.mk H); clear H; (have p163 : 0 ≤ (x5_1 : Int) := of_decide_eq_true (by assumption)); (have q163 : x5_1 < (t162.length : Int) := of_decide_eq_true (by assumption)); obtain ⟨ad163, e163, hx163_0, hx163_1, hx163_2⟩ := at_T50 (Kd.R_reads' HO_0.out).2.2 x5_1 p163 q163; cases e163; (replace p163 := eq_true p163); (replace q163 := eq_true q163); (go_upto_block 2 with (first | ((with_reducible refine gate_dst (N := 6) rfl ?_); refine box_event ?hg (N := 6) ?hd (cs := #[.int .i64 0, .int .u64 0, .int .i64 0]) (t := 50) ?hr ?_; (case hd => rfl); (case hg => rfl); (case hr => first | (go_simp; done) | (go_simp; rfl)); intro gb164 hg w8 hbox hb; have n0_ := Aside0.mk (Kd.R_below (Kd.R_elderB (rn HO_0) gb164 (Nat.le_of_eq hg.symm)) hb); have n1_ := Aside0.mk (Kd.R_below (Kd.R_elderB (rn HO_4) gb164 (Nat.le_of_eq hg.symm)) hb); have n2_ := Aside0.mk (Kept.below (S := (fun k_ => P0_ k_)) (by repeat (first | (with_reducible first | exact HK.out | apply Kept.alloc | apply Kept.drewN | apply Kept.drew) | exact HK.out)) hb); have n4_ := Aside0.mk (hbox); have n5_ := Aside0.mk ((by rw [hg]; exact (by first | exact HK.out.1 | exact (show Kept w _ (fun k_ => P0_ k_) from by repeat (first | (with_reducible first | exact HK.out | apply Kept.alloc | apply Kept.drewN | apply Kept.drew) | exact HK.out)).1) : w.heap.size ≤ gb164)); have n6_ := Aside0.mk ((by rw [hg]; exact (below_size (bn HB)) : w0.heap.size ≤ gb164)); clear HO_0; clear HO_4; clear HK; have HO_0 := n0_; have HO_4 := n1_; have HK := n2_; replace HB := bb HB hb; have BK164 := n4_; have GW164 := n5_; have GE164 := n6_; clear n0_ n1_ n2_ n4_ n5_ n6_; clear hb hbox hg; have hcz9_0 : w8.cell? ⟨gb164, 0, none⟩ = some (.int .i64 0) := (blk_cell BK164.out 0).trans rfl; have hcz9_1 : w8.cell? ⟨gb164, 1, none⟩ = some (.int .u64 0) := (blk_cell BK164.out 1).trans rfl; have hcz9_2 : w8.cell? ⟨gb164, 2, none⟩ = some (.int .i64 0) := (blk_cell BK164.out 2).trans rfl; have hfz9_0 := blk_frozen BK164.out 0; have hfz9_1 := blk_frozen BK164.out 1; have hfz9_2 := blk_frozen BK164.out 2))); (try simp only [Act.put, List.setIfInBounds_toArray, List.set_cons_zero, List.set_cons_succ]); (go_cut [5] (fun v5 wc => ∃ (kq : Nat) (x5_6 : Int) (x165002_6 : Int), v5 = .int .i64 x5_6 ∧ Aside0 (batch_summed.j2 kq t162 x4_1 x5_6 ((rd_T50 t162 x5_1).f0) ((rd_T50 t162 x5_1).f1) x165002_6 = some (r1, r2, r3)) ∧ Aside0 (kq ≤ k1) ∧ Aside0 (Kd.R k50 50 wc w0.heap.size (fun k_ => (P0_ k_ ∨ w.heap.size ≤ k_) ∧ some k_ ≠ (u4 : Value).ownBlock ∧ k_ ≠ gb164) (.slice (some ad163) t162.length co3) t162) ∧ Aside0 (Kd.R k50 50 wc w0.heap.size (fun k_ => (P0_ k_ ∨ w.heap.size ≤ k_) ∧ some k_ ≠ ((.slice (some ad163) t162.length co3) : Value).ownBlock ∧ k_ ≠ gb164) u4 x4_1) ∧ Aside0 (wc.heap[gb164]? = some (.cells #[.int .i64 ((rd_T50 t162 x5_1).f0), .int .u64 ((rd_T50 t162 x5_1).f1), .int .i64 x165002_6] 50 (0, 0))) ∧ Aside0 (Kept w wc (fun k_ => P0_ k_)) ∧ Aside0 (Below w0.heap.size w0 wc)))
     case first =>
      (have H := HC7.out); clear HC7; (have H' := Aside0.mk H); clear H; go_wp2; (go_loopg [5] k1 (fun kq v5 w' => ∃ (x5_2 : Int) (x165002_2 : Int), v5 = .int .i64 x5_2 ∧ Aside0 (batch_summed.l1 kq t162 x4_1 x5_2 ((rd_T50 t162 x5_1).f0) ((rd_T50 t162 x5_1).f1) x165002_2 = some (r1, r2, r3)) ∧ Aside0 (kq ≤ k1) ∧ Aside0 (Kd.R k50 50 w' w0.heap.size (fun k_ => (P0_ k_ ∨ w.heap.size ≤ k_) ∧ some k_ ≠ (u4 : Value).ownBlock ∧ k_ ≠ gb164) (.slice (some ad163) t162.length co3) t162) ∧ Aside0 (Kd.R k50 50 w' w0.heap.size (fun k_ => (P0_ k_ ∨ w.heap.size ≤ k_) ∧ some k_ ≠ ((.slice (some ad163) t162.length co3) : Value).ownBlock ∧ k_ ≠ gb164) u4 x4_1) ∧ Aside0 (w'.heap[gb164]? = some (.cells #[.int .i64 ((rd_T50 t162 x5_1).f0), .int .u64 ((rd_T50 t162 x5_1).f1), .int .i64 x165002_2] 50 (0, 0))) ∧ Aside0 (Kept w w' (fun k_ => P0_ k_)) ∧ Aside0 (Below w0.heap.size w0 w')))
      case atStart => exact ⟨(wrap64 (x5_1 + 1)), ((rd_T50 t162 x5_1).f2), qr_, H', ⟨Nat.le_refl _⟩, ⟨by (try simp only [hl0_1]); (with_reducible repeat (first | apply Kd.R_alloc | apply Kd.R_drewN | apply Kd.R_drew)); exact Kd.R_mono (Kd.R_far (p := ⟨gb164, 2, none⟩) (Kd.R_far (p := ⟨gb164, 1, none⟩) (Kd.R_far (p := ⟨gb164, 0, none⟩) (Kd.R_mono HO_0.out (fun k_ hk => (⟨hk, hk.2⟩ : _ ∧ k_ ≠ gb164))) (fun _ hk => hk.2) (.int .i64 ((rd_T50 t162 x5_1).f0))) (fun _ hk => hk.2) (.int .u64 ((rd_T50 t162 x5_1).f1))) (fun _ hk => hk.2) (.int .i64 ((rd_T50 t162 x5_1).f2))) (fun _ hk => ⟨hk.1.1.1, ⟨hk.1.1.2, hk.1.2⟩⟩)⟩, ⟨by (try simp only [hl0_1]); (with_reducible repeat (first | apply Kd.R_alloc | apply Kd.R_drewN | apply Kd.R_drew)); exact Kd.R_mono (Kd.R_far (p := ⟨gb164, 2, none⟩) (Kd.R_far (p := ⟨gb164, 1, none⟩) (Kd.R_far (p := ⟨gb164, 0, none⟩) (Kd.R_mono HO_4.out (fun k_ hk => (⟨hk, hk.2⟩ : _ ∧ k_ ≠ gb164))) (fun _ hk => hk.2) (.int .i64 ((rd_T50 t162 x5_1).f0))) (fun _ hk => hk.2) (.int .u64 ((rd_T50 t162 x5_1).f1))) (fun _ hk => hk.2) (.int .i64 ((rd_T50 t162 x5_1).f2))) (fun _ hk => ⟨hk.1.1.1, ⟨hk.1.1.2, hk.1.2⟩⟩)⟩, ⟨by (try simp only [hl0_1]); (with_reducible repeat (first | refine blk_drewN ?_ _ | refine blk_drew ?_ | refine blk_alloc ?_ _)); refine blk_put (cs := #[.int .i64 ((rd_T50 t162 x5_1).f0), .int .u64 ((rd_T50 t162 x5_1).f1), .int .i64 0]) ?_ 2 _ rfl; (with_reducible repeat (first | refine blk_drewN ?_ _ | refine blk_drew ?_ | refine blk_alloc ?_ _)); refine blk_put (cs := #[.int .i64 ((rd_T50 t162 x5_1).f0), .int .u64 0, .int .i64 0]) ?_ 1 _ rfl; (with_reducible repeat (first | refine blk_drewN ?_ _ | refine blk_drew ?_ | refine blk_alloc ?_ _)); refine blk_put (cs := #[.int .i64 0, .int .u64 0, .int .i64 0]) ?_ 0 _ rfl; (with_reducible repeat (first | refine blk_drewN ?_ _ | refine blk_drew ?_ | refine blk_alloc ?_ _)); exact BK164.out⟩, ⟨by repeat (first | (with_reducible first | exact HK.out | apply Kept.alloc | apply Kept.drewN | apply Kept.drew | refine Kept.setCell ?_ (.inr GW164.out) _) | exact HK.out)⟩, ⟨bn1 HB GE164⟩⟩
      case round =>
       clear H'; obtain ⟨x5_2, x165002_2, rfl, HA, HK2, HO_0, HO_4, BK164, HK, HB⟩ := hrel
       cases gk with
       | zero => exact absurd HA.out (by simp [batch_summed.l1])
       | succ k2 =>
        (have H := HA.out); clear HA; simp only [batch_summed.l1] at H; by_cases c10 : x5_2 < (t162.length : Int)
        ·rw [if_pos c10] at H; (have c10b0 : decide (x5_2 < (t162.length : Int)) = true := decide_eq_true c10); clear c10; (first | rw [c10b0] | (simp only [i64_w, i32_w]; rw [c10b0]) | skip); by_cases c11 : 0 ≤ x5_2
         ·rw [if_pos c11] at H; (have c11b0 : decide (0 ≤ x5_2) = true := decide_eq_true c11); clear c11; (replace H := Option.bind_eq_some_iff.mp H); obtain ⟨t166, A120, H⟩ := H; (replace H : (if t166 = 0 then (batch_summed.l1 k2 t162 x4_1 (wrap64 (x5_2 + 1)) ((rd_T50 t162 x5_1).f0) ((rd_T50 t162 x5_1).f1) (wrap64 (x165002_2 + ((rd_T50 t162 x5_2).f2)))) else (batch_summed.j2 k2 t162 x4_1 x5_2 ((rd_T50 t162 x5_1).f0) ((rd_T50 t162 x5_1).f1) x165002_2)) = some (r1, r2, r3) := H); (have A12 := Aside0.mk A120); clear A120; by_cases c13 : t166 = 0
          ·rw [if_pos c13] at H; (have c13b0 : (t166 == 0) = true := beq_iff_eq.mpr c13); (have c13b1 : (t166 != 0) = false := bne_eq_false_iff_eq.mpr c13); clear c13; (have H' := Aside0.mk H); clear H; (try go_wp2); (have n0_ := Aside0.mk (Kd.R_drew HO_0.out)); (have n1_ := Aside0.mk (Kd.R_drew HO_4.out)); (have n2_ := Aside0.mk (blk_drew BK164.out)); (have n3_ := Aside0.mk (Kept.drew HK.out)); (have n4_ := Aside0.mk (below_drew1 HB.out)); clear HO_0; clear HO_4; clear BK164; clear HK; clear HB; (have HO_0 := n0_); (have HO_4 := n1_); (have BK164 := n2_); (have HK := n3_); (have HB := n4_); clear n0_ n1_ n2_ n3_ n4_; (have p165 : 0 ≤ (x5_2 : Int) := of_decide_eq_true (by assumption)); (have q165 : x5_2 < (t162.length : Int) := of_decide_eq_true (by assumption)); obtain ⟨ad165, e165, hx165_0, hx165_1, hx165_2⟩ := at_T50 (Kd.R_reads' HO_0.out).2.2 x5_2 p165 q165; obtain rfl : ad163 = ad165 := (by injection e165); (replace p165 := eq_true p165); (replace q165 := eq_true q165); (refine start_ (n := 13) (S := fun w' => w'.cell? ⟨gb164, 0, none⟩ = some (.int .i64 ((rd_T50 t162 x5_1).f0)) ∧ w'.cell? ⟨gb164, 1, none⟩ = some (.int .u64 ((rd_T50 t162 x5_1).f1)) ∧ w'.cell? ⟨gb164, 2, none⟩ = some (.int .i64 x165002_2) ∧ w'.cell? (ad163.add ((x5_2).toNat * 3)) = some (.int .i64 ((rd_T50 t162 x5_2).f0)) ∧ w'.cell? ⟨(ad163.add ((x5_2).toNat * 3)).block, (ad163.add ((x5_2).toNat * 3)).off + 1, none⟩ = some (.int .u64 ((rd_T50 t162 x5_2).f1)) ∧ w'.cell? ⟨(ad163.add ((x5_2).toNat * 3)).block, (ad163.add ((x5_2).toNat * 3)).off + 2, none⟩ = some (.int .i64 ((rd_T50 t162 x5_2).f2))) (ds := []) (mk_ 0 13) (by kernel_rfl) rfl rfl ⟨(blk_cell BK164.out 0).trans rfl, (blk_cell BK164.out 1).trans rfl, (blk_cell BK164.out 2).trans rfl, hx165_0, hx165_1, hx165_2⟩ (fun hHeld => ?_); refine with_tabW batch_summed.tab7 batch_summed.bits7 (fun HT_ HW_ => ?_)); generalize wr.drew = w14 at HO_0 HO_4 BK164 HK HB hx165_0 hx165_1 hx165_2 hHeld ⊢; refine pv_ 0 19 (mk_ 1 12) HT_ ?_; refine pv_ 1 20 (mk_ 2 11) HT_ ?_; refine pv_ 2 21 (mk_ 3 10) HT_ ?_; refine pv_ 3 22 (mk_ 4 9) HT_ ?_; refine pv_ 4 23 (mk_ 5 8) HT_ ?_; refine pv_ 5 24 (mk_ 6 7) HT_ ?_; refine pv_ 6 25 (mk_ 7 6) HT_ ?_; refine pv_ 7 26 (mk_ 8 5) HT_ ?_; (refine tv_ 8 27 (mk_ 9 4) HT_ HW_ hHeld (hy := by rintro w' ⟨s0, s1, s2, s3, s4, s5⟩; go_simp; with_reducible rfl) (h := ?_)); (refine tv_ 9 28 (mk_ 10 3) HT_ HW_ hHeld (hy := by rintro w' ⟨s0, s1, s2, s3, s4, s5⟩; go_simp; with_reducible rfl) (h := ?_)); (refine one_ (i := 10) (N := some 29) (mk_ 11 2) rfl rfl (one_of HT_.out (by kernel_rfl)) (by decide) (fun K hK => ?_)); refine goes_ Try.func53 (by kernel_rfl) rfl #[.agg #[.int .i64 ((rd_T50 t162 x5_2).f0), .int .u64 ((rd_T50 t162 x5_2).f1), .int .i64 ((rd_T50 t162 x5_2).f2)], .agg #[.int .i64 ((rd_T50 t162 x5_1).f0), .int .u64 ((rd_T50 t162 x5_1).f1), .int .i64 x165002_2]] (by rfl) rfl rfl am_ ?_; (with_reducible refine (batch_order.calls k2 ((rd_T50 t162 x5_2).f0) ((rd_T50 t162 x5_2).f1) ((rd_T50 t162 x5_2).f2) ((rd_T50 t162 x5_1).f0) ((rd_T50 t162 x5_1).f1) x165002_2 t166 _ A12.out).mono ?_)
           rintro e w15 ⟨rfl, hb⟩; (have HS3_ := (hb.cell (World.block_lt_of_cell? _ _ (hHeld.2.2.2.1))).trans (hHeld.2.2.2.1)); (have HS4_ := (hb.cell (World.block_lt_of_cell? _ _ (hHeld.2.2.2.2.1))).trans (hHeld.2.2.2.2.1)); (have HS5_ := (hb.cell (World.block_lt_of_cell? _ _ (hHeld.2.2.2.2.2))).trans (hHeld.2.2.2.2.2)); refine ⟨_, rfl, ?_⟩; (have n0_ := Aside0.mk (Kd.R_below (rn HO_0) hb)); (have n1_ := Aside0.mk (Kd.R_below (rn HO_4) hb)); (have n2_ := Aside0.mk (bkb BK164 hb)); (have n3_ := Aside0.mk (Kept.below (S := (fun k_ => P0_ k_)) (by repeat (first | (with_reducible first | exact HK.out | apply Kept.alloc | apply Kept.drewN | apply Kept.drew | refine Kept.setCell ?_ (.inr GW164.out) _) | exact HK.out)) hb)); (have n4_ := Aside0.mk (below_step (bn1 HB GE164) hb)); clear HO_0; clear HO_4; clear BK164; clear HK; clear HB; (have HO_0 := n0_); (have HO_4 := n1_); (have BK164 := n2_); (have HK := n3_); (have HB := n4_); clear n0_ n1_ n2_ n3_ n4_; (refine hK.out _ _ ⟨(blk_cell BK164.out 0).trans rfl, (blk_cell BK164.out 1).trans rfl, (blk_cell BK164.out 2).trans rfl, HS3_, HS4_, HS5_⟩ (fun hHeld => ?_)); clear hK K; refine norm_ (a' := ?_) ?_ ?_; rotate_left
           ·(show Act.put _ (some 29) _ = _); simp only [Act.put, List.setIfInBounds_toArray, List.set_cons_zero, List.set_cons_succ, i64_w, i32_w]; rfl
           refine pv_ 11 30 (mk_ 12 1) HT_ ?_; refine pv_ 12 31 (mk_ 13 0) HT_ ?_; refine done_ (done_of HT_.out (by kernel_rfl)) ?_; (try go_wp2); (have n0_ := Aside0.mk (Kd.R_drew HO_0.out)); (have n1_ := Aside0.mk (Kd.R_drew HO_4.out)); (have n2_ := Aside0.mk (blk_drew BK164.out)); (have n3_ := Aside0.mk (Kept.drew HK.out)); (have n4_ := Aside0.mk (below_drew1 HB.out)); clear HO_0; clear HO_4; clear BK164; clear HK; clear HB; (have HO_0 := n0_); (have HO_4 := n1_); (have BK164 := n2_); (have HK := n3_); (have HB := n4_); clear n0_ n1_ n2_ n3_ n4_; (have p167 : 0 ≤ (x5_2 : Int) := of_decide_eq_true (by assumption)); (have q167 : x5_2 < (t162.length : Int) := of_decide_eq_true (by assumption)); obtain ⟨ad167, e167, hx167_0, hx167_1, hx167_2⟩ := at_T50 (Kd.R_reads' HO_0.out).2.2 x5_2 p167 q167; obtain rfl : ad163 = ad167 := (by injection e167); (replace p167 := eq_true p167); (replace q167 := eq_true q167); (refine start_ (n := 10) (S := fun w' => w'.cell? ⟨gb164, 0, none⟩ = some (.int .i64 ((rd_T50 t162 x5_1).f0)) ∧ w'.cell? ⟨gb164, 1, none⟩ = some (.int .u64 ((rd_T50 t162 x5_1).f1)) ∧ w'.cell? ⟨gb164, 2, none⟩ = some (.int .i64 x165002_2) ∧ w'.cell? (ad163.add ((x5_2).toNat * 3)) = some (.int .i64 ((rd_T50 t162 x5_2).f0)) ∧ w'.cell? ⟨(ad163.add ((x5_2).toNat * 3)).block, (ad163.add ((x5_2).toNat * 3)).off + 1, none⟩ = some (.int .u64 ((rd_T50 t162 x5_2).f1)) ∧ w'.cell? ⟨(ad163.add ((x5_2).toNat * 3)).block, (ad163.add ((x5_2).toNat * 3)).off + 2, none⟩ = some (.int .i64 ((rd_T50 t162 x5_2).f2))) (ds := [9]) (mk_ 0 10) (by kernel_rfl) rfl rfl ⟨(blk_cell BK164.out 0).trans rfl, (blk_cell BK164.out 1).trans rfl, (blk_cell BK164.out 2).trans rfl, hx167_0, hx167_1, hx167_2⟩ (fun hHeld => ?_); refine with_tabW batch_summed.tab9 batch_summed.bits9 (fun HT_ HW_ => ?_)); generalize w15.drew = w16 at HO_0 HO_4 BK164 HK HB hx167_0 hx167_1 hx167_2 hHeld ⊢; refine pv_ 0 34 (mk_ 1 9) HT_ ?_; refine pv_ 2 36 (mb_ 10 5) HT_ ?_; refine pv_ 3 37 (mb_ 10 13) HT_ ?_; refine pv_ 4 38 (mb_ 10 29) HT_ ?_; refine pv_ 5 39 (mb_ 10 61) HT_ ?_; (refine tv_ 1 35 (mk_ 6 4) HT_ HW_ hHeld (hy := by rintro w' ⟨s0, s1, s2, s3, s4, s5⟩; go_simp; with_reducible rfl) (h := ?_)); (refine tv_ 6 40 (mk_ 7 3) HT_ HW_ hHeld (hy := by rintro w' ⟨s0, s1, s2, s3, s4, s5⟩; go_simp; with_reducible rfl) (h := ?_)); refine pv_ 7 41 (mk_ 8 2) HT_ ?_; refine pv_ 8 42 (mk_ 9 1) HT_ ?_; (refine last_ (i := 9) (N := none) (mk_ 10 0) rfl rfl (one_of HT_.out (by kernel_rfl)) (by decide) (fun K hK => ?_)); (have hs17 : w16.cell? ⟨gb164, 2, none⟩ = some (.int .i64 x165002_2) := (blk_cell BK164.out 2).trans rfl); (have hfs17 := blk_frozen BK164.out 2); refine skip_ (w1 := ?_) (by rfl) rfl ?_ ?_; rotate_left
           ·go_simp; rfl
           refine hK.out _ _ ?_; clear hK K; refine done_ (done_of HT_.out (by kernel_rfl)) ?_; (try go_wp2); go_roundg k2
           case measure => have := HK1.out; have := HK2.out; omega
           case rel => exact ⟨(wrap64 (x5_2 + 1)), (wrap64 (x165002_2 + ((rd_T50 t162 x5_2).f2))), qr_, H', ⟨by have := HK1.out; have := HK2.out; omega⟩, ⟨by (try simp only [hl0_1]); (with_reducible repeat (first | apply Kd.R_alloc | apply Kd.R_drewN | apply Kd.R_drew)); exact Kd.R_mono (Kd.R_far (p := ⟨gb164, 2, none⟩) (Kd.R_mono HO_0.out (fun k_ hk => (⟨hk, hk.2.2⟩ : _ ∧ k_ ≠ gb164))) (fun _ hk => hk.2) (.int .i64 (wrap64 (x165002_2 + ((rd_T50 t162 x5_2).f2))))) (fun _ hk => ⟨hk.1.1, ⟨hk.1.2.1, hk.1.2.2⟩⟩)⟩, ⟨by (try simp only [hl0_1]); (with_reducible repeat (first | apply Kd.R_alloc | apply Kd.R_drewN | apply Kd.R_drew)); exact Kd.R_mono (Kd.R_far (p := ⟨gb164, 2, none⟩) (Kd.R_mono HO_4.out (fun k_ hk => (⟨hk, hk.2.2⟩ : _ ∧ k_ ≠ gb164))) (fun _ hk => hk.2) (.int .i64 (wrap64 (x165002_2 + ((rd_T50 t162 x5_2).f2))))) (fun _ hk => ⟨hk.1.1, ⟨hk.1.2.1, hk.1.2.2⟩⟩)⟩, ⟨by (try simp only [hl0_1]); (with_reducible repeat (first | refine blk_drewN ?_ _ | refine blk_drew ?_ | refine blk_alloc ?_ _)); refine blk_put (cs := #[.int .i64 ((rd_T50 t162 x5_1).f0), .int .u64 ((rd_T50 t162 x5_1).f1), .int .i64 x165002_2]) ?_ 2 _ rfl; (with_reducible repeat (first | refine blk_drewN ?_ _ | refine blk_drew ?_ | refine blk_alloc ?_ _)); exact BK164.out⟩, ⟨by repeat (first | (with_reducible first | exact HK.out | apply Kept.alloc | apply Kept.drewN | apply Kept.drew | refine Kept.setCell ?_ (.inr GW164.out) _) | exact HK.out)⟩, ⟨bn1 HB GE164⟩⟩
          ·rw [if_neg c13] at H; (have c13b0 : (t166 == 0) = false := beq_eq_false_iff_ne.mpr c13); (have c13b1 : (t166 != 0) = true := bne_iff_ne.mpr c13); (have H' := Aside0.mk H); clear H; (try go_wp2); (have n0_ := Aside0.mk (Kd.R_drew HO_0.out)); (have n1_ := Aside0.mk (Kd.R_drew HO_4.out)); (have n2_ := Aside0.mk (blk_drew BK164.out)); (have n3_ := Aside0.mk (Kept.drew HK.out)); (have n4_ := Aside0.mk (below_drew1 HB.out)); clear HO_0; clear HO_4; clear BK164; clear HK; clear HB; (have HO_0 := n0_); (have HO_4 := n1_); (have BK164 := n2_); (have HK := n3_); (have HB := n4_); clear n0_ n1_ n2_ n3_ n4_; (have p165 : 0 ≤ (x5_2 : Int) := of_decide_eq_true (by assumption)); (have q165 : x5_2 < (t162.length : Int) := of_decide_eq_true (by assumption)); obtain ⟨ad165, e165, hx165_0, hx165_1, hx165_2⟩ := at_T50 (Kd.R_reads' HO_0.out).2.2 x5_2 p165 q165; obtain rfl : ad163 = ad165 := (by injection e165); (replace p165 := eq_true p165); (replace q165 := eq_true q165); (refine start_ (n := 13) (S := fun w' => w'.cell? ⟨gb164, 0, none⟩ = some (.int .i64 ((rd_T50 t162 x5_1).f0)) ∧ w'.cell? ⟨gb164, 1, none⟩ = some (.int .u64 ((rd_T50 t162 x5_1).f1)) ∧ w'.cell? ⟨gb164, 2, none⟩ = some (.int .i64 x165002_2) ∧ w'.cell? (ad163.add ((x5_2).toNat * 3)) = some (.int .i64 ((rd_T50 t162 x5_2).f0)) ∧ w'.cell? ⟨(ad163.add ((x5_2).toNat * 3)).block, (ad163.add ((x5_2).toNat * 3)).off + 1, none⟩ = some (.int .u64 ((rd_T50 t162 x5_2).f1)) ∧ w'.cell? ⟨(ad163.add ((x5_2).toNat * 3)).block, (ad163.add ((x5_2).toNat * 3)).off + 2, none⟩ = some (.int .i64 ((rd_T50 t162 x5_2).f2))) (ds := []) (mk_ 0 13) (by kernel_rfl) rfl rfl ⟨(blk_cell BK164.out 0).trans rfl, (blk_cell BK164.out 1).trans rfl, (blk_cell BK164.out 2).trans rfl, hx165_0, hx165_1, hx165_2⟩ (fun hHeld => ?_); refine with_tabW batch_summed.tab7 batch_summed.bits7 (fun HT_ HW_ => ?_)); generalize wr.drew = w18 at HO_0 HO_4 BK164 HK HB hx165_0 hx165_1 hx165_2 hHeld ⊢; refine pv_ 0 19 (mk_ 1 12) HT_ ?_; refine pv_ 1 20 (mk_ 2 11) HT_ ?_; refine pv_ 2 21 (mk_ 3 10) HT_ ?_; refine pv_ 3 22 (mk_ 4 9) HT_ ?_; refine pv_ 4 23 (mk_ 5 8) HT_ ?_; refine pv_ 5 24 (mk_ 6 7) HT_ ?_; refine pv_ 6 25 (mk_ 7 6) HT_ ?_; refine pv_ 7 26 (mk_ 8 5) HT_ ?_; (refine tv_ 8 27 (mk_ 9 4) HT_ HW_ hHeld (hy := by rintro w' ⟨s0, s1, s2, s3, s4, s5⟩; go_simp; with_reducible rfl) (h := ?_)); (refine tv_ 9 28 (mk_ 10 3) HT_ HW_ hHeld (hy := by rintro w' ⟨s0, s1, s2, s3, s4, s5⟩; go_simp; with_reducible rfl) (h := ?_)); (refine one_ (i := 10) (N := some 29) (mk_ 11 2) rfl rfl (one_of HT_.out (by kernel_rfl)) (by decide) (fun K hK => ?_)); refine goes_ Try.func53 (by kernel_rfl) rfl #[.agg #[.int .i64 ((rd_T50 t162 x5_2).f0), .int .u64 ((rd_T50 t162 x5_2).f1), .int .i64 ((rd_T50 t162 x5_2).f2)], .agg #[.int .i64 ((rd_T50 t162 x5_1).f0), .int .u64 ((rd_T50 t162 x5_1).f1), .int .i64 x165002_2]] (by rfl) rfl rfl am_ ?_; (with_reducible refine (batch_order.calls k2 ((rd_T50 t162 x5_2).f0) ((rd_T50 t162 x5_2).f1) ((rd_T50 t162 x5_2).f2) ((rd_T50 t162 x5_1).f0) ((rd_T50 t162 x5_1).f1) x165002_2 t166 _ A12.out).mono ?_)
           rintro e w19 ⟨rfl, hb⟩; (have HS3_ := (hb.cell (World.block_lt_of_cell? _ _ (hHeld.2.2.2.1))).trans (hHeld.2.2.2.1)); (have HS4_ := (hb.cell (World.block_lt_of_cell? _ _ (hHeld.2.2.2.2.1))).trans (hHeld.2.2.2.2.1)); (have HS5_ := (hb.cell (World.block_lt_of_cell? _ _ (hHeld.2.2.2.2.2))).trans (hHeld.2.2.2.2.2)); refine ⟨_, rfl, ?_⟩; (have n0_ := Aside0.mk (Kd.R_below (rn HO_0) hb)); (have n1_ := Aside0.mk (Kd.R_below (rn HO_4) hb)); (have n2_ := Aside0.mk (bkb BK164 hb)); (have n3_ := Aside0.mk (Kept.below (S := (fun k_ => P0_ k_)) (by repeat (first | (with_reducible first | exact HK.out | apply Kept.alloc | apply Kept.drewN | apply Kept.drew | refine Kept.setCell ?_ (.inr GW164.out) _) | exact HK.out)) hb)); (have n4_ := Aside0.mk (below_step (bn1 HB GE164) hb)); clear HO_0; clear HO_4; clear BK164; clear HK; clear HB; (have HO_0 := n0_); (have HO_4 := n1_); (have BK164 := n2_); (have HK := n3_); (have HB := n4_); clear n0_ n1_ n2_ n3_ n4_; (refine hK.out _ _ ⟨(blk_cell BK164.out 0).trans rfl, (blk_cell BK164.out 1).trans rfl, (blk_cell BK164.out 2).trans rfl, HS3_, HS4_, HS5_⟩ (fun hHeld => ?_)); clear hK K; refine norm_ (a' := ?_) ?_ ?_; rotate_left
           ·(show Act.put _ (some 29) _ = _); simp only [Act.put, List.setIfInBounds_toArray, List.set_cons_zero, List.set_cons_succ, i64_w, i32_w]; rfl
           refine pv_ 11 30 (mk_ 12 1) HT_ ?_; refine pv_ 12 31 (mk_ 13 0) HT_ ?_; refine done_ (done_of HT_.out (by kernel_rfl)) ?_; (try go_wp2); go_meet
           case rel => exact ⟨_, (x5_2), (x165002_2), qr_, H', ⟨by have := HK1.out; have := HK2.out; first | omega | exact Nat.le_refl _⟩, ⟨by (try simp only [hl0_1]); (with_reducible repeat (first | apply Kd.R_alloc | apply Kd.R_drewN | apply Kd.R_drew)); exact HO_0.out⟩, ⟨by (try simp only [hl0_1]); (with_reducible repeat (first | apply Kd.R_alloc | apply Kd.R_drewN | apply Kd.R_drew)); exact HO_4.out⟩, ⟨by (try simp only [hl0_1]); (with_reducible repeat (first | refine blk_drewN ?_ _ | refine blk_drew ?_ | refine blk_alloc ?_ _)); exact BK164.out⟩, ⟨by repeat (first | (with_reducible first | exact HK.out | apply Kept.alloc | apply Kept.drewN | apply Kept.drew | refine Kept.setCell ?_ (.inr GW164.out) _) | exact HK.out)⟩, ⟨bn1 HB GE164⟩⟩
         ·rw [if_neg c11] at H; (exact absurd H (by simp))
        ·rw [if_neg c10] at H; (have c10b0 : decide (x5_2 < (t162.length : Int)) = false := decide_eq_false c10); clear c10; (first | rw [c10b0] | (simp only [i64_w, i32_w]; rw [c10b0]) | skip); (have H' := Aside0.mk H); clear H; (try go_wp2); (have n0_ := Aside0.mk (Kd.R_drew HO_0.out)); (have n1_ := Aside0.mk (Kd.R_drew HO_4.out)); (have n2_ := Aside0.mk (blk_drew BK164.out)); (have n3_ := Aside0.mk (Kept.drew HK.out)); (have n4_ := Aside0.mk (below_drew1 HB.out)); clear HO_0; clear HO_4; clear BK164; clear HK; clear HB; (have HO_0 := n0_); (have HO_4 := n1_); (have BK164 := n2_); (have HK := n3_); (have HB := n4_); clear n0_ n1_ n2_ n3_ n4_; (refine start_ (n := 13) (S := fun w' => True) (ds := []) (mk_ 0 13) (by kernel_rfl) rfl rfl trivial (fun hHeld => ?_); refine with_tabW batch_summed.tab7 batch_summed.bits7 (fun HT_ HW_ => ?_)); generalize wr.drew = w20 at HO_0 HO_4 BK164 HK HB hHeld ⊢; refine pv_ 0 19 (mk_ 1 12) HT_ ?_; refine pv_ 1 20 (mk_ 2 11) HT_ ?_; refine pv_ 2 21 (mk_ 3 10) HT_ ?_; refine pv_ 3 22 (mk_ 4 9) HT_ ?_; refine pv_ 4 23 (mk_ 5 8) HT_ ?_; refine pu_ 5 24 (mk_ 6 7) HT_ ?_; refine pu_ 6 25 (mk_ 7 6) HT_ ?_; refine pu_ 7 26 (mk_ 8 5) HT_ ?_; refine pu_ 8 27 (mk_ 9 4) HT_ ?_; refine pu_ 9 28 (mk_ 10 3) HT_ ?_; refine pu_ 10 29 (mk_ 11 2) HT_ ?_; refine pu_ 11 30 (mk_ 12 1) HT_ ?_; refine pv_ 12 31 (mk_ 13 0) HT_ ?_; refine done_ (done_of HT_.out (by kernel_rfl)) ?_; (try go_wp2); go_meet
         case rel => exact ⟨_, (x5_2), (x165002_2), qr_, H', ⟨by have := HK1.out; have := HK2.out; first | omega | exact Nat.le_refl _⟩, ⟨by (try simp only [hl0_1]); (with_reducible repeat (first | apply Kd.R_alloc | apply Kd.R_drewN | apply Kd.R_drew)); exact HO_0.out⟩, ⟨by (try simp only [hl0_1]); (with_reducible repeat (first | apply Kd.R_alloc | apply Kd.R_drewN | apply Kd.R_drew)); exact HO_4.out⟩, ⟨by (try simp only [hl0_1]); (with_reducible repeat (first | refine blk_drewN ?_ _ | refine blk_drew ?_ | refine blk_alloc ?_ _)); exact BK164.out⟩, ⟨by repeat (first | (with_reducible first | exact HK.out | apply Kept.alloc | apply Kept.drewN | apply Kept.drew | refine Kept.setCell ?_ (.inr GW164.out) _) | exact HK.out)⟩, ⟨bn1 HB GE164⟩⟩
     case rest =>
      clear HC7; obtain ⟨kq, x5_6, x165002_6, rfl, HA, HJ6, HO_0, HO_4, BK164, HK, HB⟩ := hcut
      cases kq with
      | zero => exact absurd HA.out (by simp [batch_summed.j2])
      | succ kj6 =>
       (have H := HA.out); clear HA; simp only [batch_summed.j2] at H; (replace H := Option.bind_eq_some_iff.mp H); obtain ⟨t168, A210, H⟩ := H; (replace H : (if t168 = true then (if x165002_6 = 0 then (batch_summed.l0 kj6 t162 x4_1 x5_6) else (if x4_1.length < 5864062014805 then (batch_summed.l0 kj6 t162 (x4_1 ++ [(⟨((rd_T50 t162 x5_1).f0), ((rd_T50 t162 x5_1).f1), x165002_6⟩ : S50)]) x5_6) else (none))) else (some (([] : List (S50)), 10, t162))) = some (r1, r2, r3) := H); (have A21 := Aside0.mk A210); clear A210; by_cases c22 : t168 = true
       ·subst c22; (have H1 : (if x165002_6 = 0 then (batch_summed.l0 kj6 t162 x4_1 x5_6) else (if x4_1.length < 5864062014805 then (batch_summed.l0 kj6 t162 (x4_1 ++ [(⟨((rd_T50 t162 x5_1).f0), ((rd_T50 t162 x5_1).f1), x165002_6⟩ : S50)]) x5_6) else (none))) = some (r1, r2, r3) := by rw [if_pos rfl] at H; exact H); clear H; (have H := H1); clear H1; by_cases c23 : x165002_6 = 0
        ·rw [if_pos c23] at H; (have c23b0 : (x165002_6 == 0) = true := beq_iff_eq.mpr c23); (have c23b1 : (x165002_6 != 0) = false := bne_eq_false_iff_eq.mpr c23); clear c23; (have H' := Aside0.mk H); clear H; (have hcz24_0 : wc.cell? ⟨gb164, 0, none⟩ = some (.int .i64 ((rd_T50 t162 x5_1).f0)) := (blk_cell BK164.out 0).trans rfl); (have hcz24_1 : wc.cell? ⟨gb164, 1, none⟩ = some (.int .u64 ((rd_T50 t162 x5_1).f1)) := (blk_cell BK164.out 1).trans rfl); (have hcz24_2 : wc.cell? ⟨gb164, 2, none⟩ = some (.int .i64 x165002_6) := (blk_cell BK164.out 2).trans rfl); (have hfz24_0 := blk_frozen BK164.out 0); (have hfz24_1 := blk_frozen BK164.out 1); (have hfz24_2 := blk_frozen BK164.out 2); (go_wp2_with (first | ((with_reducible refine gate_callee (f := 73) rfl ?_); refine gl (some 46) Try.func73 #[.int .i64 x165002_6] ?_; (with_reducible refine (batch_within.calls x165002_6 true _ A21.out).mono ?_); rintro e w' ⟨rfl, ⟨nd, rfl⟩⟩; refine ⟨_, rfl, ?_⟩))); (try simp only [← hl0_1]); go_roundg kj6
         case measure => have := HK1.out; have := HJ6.out; omega
         case rel => exact ⟨(x4_1), (x5_6), qr_, H', ⟨by have := HK1.out; have := HJ6.out; omega⟩, ⟨by (try simp only [hl0_1]); (with_reducible repeat (first | apply Kd.R_alloc | apply Kd.R_drewN | apply Kd.R_drew)); exact Kd.R_mono HO_0.out (fun _ hk => ⟨hk.1, hk.2.1⟩)⟩, ⟨by (try simp only [hl0_1]); (with_reducible repeat (first | apply Kd.R_alloc | apply Kd.R_drewN | apply Kd.R_drew)); exact Kd.R_mono HO_4.out (fun _ hk => ⟨hk.1, hk.2.1⟩)⟩, ⟨by repeat (first | (with_reducible first | exact HK.out | apply Kept.alloc | apply Kept.drewN | apply Kept.drew | refine Kept.setCell ?_ (.inr GW164.out) _) | exact HK.out)⟩, ⟨bn1 HB GE164⟩⟩
        ·rw [if_neg c23] at H; (have c23b0 : (x165002_6 == 0) = false := beq_eq_false_iff_ne.mpr c23); (have c23b1 : (x165002_6 != 0) = true := bne_iff_ne.mpr c23); by_cases c25 : x4_1.length < 5864062014805
         ·rw [if_pos c25] at H; (have LMc25 := Aside0.mk c25); clear c25; obtain ⟨y169, hy169⟩ : ∃ y_ : List (S50), y_ = (x4_1 ++ [(⟨((rd_T50 t162 x5_1).f0), ((rd_T50 t162 x5_1).f1), x165002_6⟩ : S50)]) := ⟨_, rfl⟩; (replace H : (batch_summed.l0 kj6 t162 y169 x5_6) = some (r1, r2, r3) := by first | (rw [hy169]; with_reducible exact H) | (have H2_ := (Option.bind_some _ _).symm.trans H; rw [hy169]; with_reducible exact H2_) | (have H2_ := (Option.bind_some _ _).symm.trans H; with_reducible exact H2_) | with_reducible exact H | (rw [hy169]; exact H) | exact H); (have Ny169 := Aside0.mk hy169); clear hy169; (have H' := Aside0.mk H); clear H; (have hcz26_0 : wc.cell? ⟨gb164, 0, none⟩ = some (.int .i64 ((rd_T50 t162 x5_1).f0)) := (blk_cell BK164.out 0).trans rfl); (have hcz26_1 : wc.cell? ⟨gb164, 1, none⟩ = some (.int .u64 ((rd_T50 t162 x5_1).f1)) := (blk_cell BK164.out 1).trans rfl); (have hcz26_2 : wc.cell? ⟨gb164, 2, none⟩ = some (.int .i64 x165002_6) := (blk_cell BK164.out 2).trans rfl); (have hfz26_0 := blk_frozen BK164.out 0); (have hfz26_1 := blk_frozen BK164.out 1); (have hfz26_2 := blk_frozen BK164.out 2); (go_wp2_with (first | ((with_reducible refine gate_callee (f := 73) rfl ?_); refine gl (some 46) Try.func73 #[.int .i64 x165002_6] ?_; (with_reducible refine (batch_within.calls x165002_6 true _ A21.out).mono ?_); rintro e w' ⟨rfl, ⟨nd, rfl⟩⟩; refine ⟨_, rfl, ?_⟩) | ((with_reducible refine gate_builtin (b := .append) (xs := #[.tmp 52, .tmp 54]) rfl ?_); at_builtin; refine Kd.R_append k50 (w0 := w0) w0.heap.size rfl (.tmp 52) (.tmp 54) 25 50 (.agg #[(.int .i64 0), (.int .u64 0), (.int .i64 0)]) 24 rfl Try.underlying25 info50 rfl (by decide) (by omega) u4 x4_1 (⟨((rd_T50 t162 x5_1).f0), ((rd_T50 t162 x5_1).f1), x165002_6⟩ : S50) [.int .i64 ((rd_T50 t162 x5_1).f0), .int .u64 ((rd_T50 t162 x5_1).f1), .int .i64 x165002_6] (fun k_ => (P0_ k_ ∨ w.heap.size ≤ k_) ∧ some k_ ≠ (.slice (some ad163) t162.length co3 : Value).ownBlock ∧ k_ ≠ gb164) (fun _ => False) rfl rfl ?aP (fun _ hk => hk.elim) ?aF ?aO ?aB ?aS ?aL ?_; (case aP => exact k50_mkM _ _ _ (⟨((rd_T50 t162 x5_1).f0), ((rd_T50 t162 x5_1).f1), x165002_6⟩ : S50)); (case aB => exact (bn1 HB GE164)); (case aF => exact (fun k_ hk => ⟨(.inr (Nat.le_trans (by first | exact HK.out.1 | exact (show Kept w _ (fun k_ => P0_ k_) from by repeat (first | (with_reducible first | exact HK.out | apply Kept.alloc | apply Kept.drewN | apply Kept.drew | refine Kept.setCell ?_ (.inr GW164.out) _) | exact HK.out)).1) hk)), Kd.fresh' (Kd.R_lt (rn HO_0)) k_ hk, Kd.freshB (g := gb164) (o := .cells #[.int .i64 ((rd_T50 t162 x5_1).f0), .int .u64 ((rd_T50 t162 x5_1).f1), .int .i64 x165002_6] 50 (0, 0)) (bk BK164) k_ hk⟩)); (case aO => exact (rn HO_4)); (case aS => exact (below_size (bn1 HB GE164))); (case aL => have := LMc25.out; omega); intro v170 w27 ho hb hg hat; rw [← Ny169.out] at ho; have n0_ := Aside0.mk (Kd.R_after (ok := (fun k_ => (P0_ k_ ∨ w.heap.size ≤ k_) ∧ k_ ≠ gb164)) (by (with_reducible repeat (first | apply Kd.R_alloc | apply Kd.R_drewN | apply Kd.R_drew)); exact Kd.R_mono HO_0.out (fun _ hk => ⟨⟨hk.1, hk.2.2⟩, hk.2.1⟩)) hg hat); have n1_ := Aside0.mk (blk_grown (g := gb164) (o := .cells #[.int .i64 ((rd_T50 t162 x5_1).f0), .int .u64 ((rd_T50 t162 x5_1).f1), .int .i64 x165002_6] 50 (0, 0)) (bk BK164) hg (Kd.R_away HO_4.out (fun _ hk => hk.2.2))); have n2_ := Aside0.mk (hb); have n3_ := Aside0.mk (Kept.of_grown (S := (fun k_ => P0_ k_)) hg (by repeat (first | (with_reducible first | exact HK.out | apply Kept.alloc | apply Kept.drewN | apply Kept.drew | refine Kept.setCell ?_ (.inr GW164.out) _) | exact HK.out)) (fun k_ e_ => (HO_4.out.1 k_ e_).1)); have n4_ := Aside0.mk (ho); clear HO_0; clear BK164; clear HB; clear HK; clear HO_4; have HO_0 := n0_; have BK164 := n1_; have HB := n2_; have HK := n3_; have HO171 := n4_; clear n0_ n1_ n2_ n3_ n4_; clear ho hb hg hat)))
          (try simp only [← hl0_1]); go_roundg kj6
          case measure => have := HK1.out; have := HJ6.out; omega
          case rel => exact ⟨(y169), (x5_6), qr_, H', ⟨by have := HK1.out; have := HJ6.out; omega⟩, ⟨by (try simp only [hl0_1]); (with_reducible repeat (first | apply Kd.R_alloc | apply Kd.R_drewN | apply Kd.R_drew)); exact Kd.R_mono HO_0.out (fun _ hk => ⟨hk.1.1, hk.2⟩)⟩, ⟨by (try simp only [hl0_1]); (with_reducible repeat (first | apply Kd.R_alloc | apply Kd.R_drewN | apply Kd.R_drew)); exact Kd.R_mono HO171.out (fun _ hk => ⟨hk.1, hk.2.1⟩)⟩, ⟨by repeat (first | (with_reducible first | exact HK.out | apply Kept.alloc | apply Kept.drewN | apply Kept.drew | refine Kept.setCell ?_ (.inr GW164.out) _) | exact HK.out)⟩, ⟨bn1 HB GE164⟩⟩
         ·rw [if_neg c25] at H; (exact absurd H (by simp))
       ·(replace c22 := Bool.eq_false_iff.mpr c22); subst c22; (have H1 : (some (([] : List (S50)), 10, t162)) = some (r1, r2, r3) := by rw [if_neg (show ¬ (false = true) by decide)] at H; exact H); clear H; (have H := H1); clear H1; simp only [Option.some.injEq, Prod.mk.injEq] at H; obtain ⟨rfl, rfl, rfl⟩ := H; (have hcz28_0 : wc.cell? ⟨gb164, 0, none⟩ = some (.int .i64 ((rd_T50 t162 x5_1).f0)) := (blk_cell BK164.out 0).trans rfl); (have hcz28_1 : wc.cell? ⟨gb164, 1, none⟩ = some (.int .u64 ((rd_T50 t162 x5_1).f1)) := (blk_cell BK164.out 1).trans rfl); (have hcz28_2 : wc.cell? ⟨gb164, 2, none⟩ = some (.int .i64 x165002_6) := (blk_cell BK164.out 2).trans rfl); (have hfz28_0 := blk_frozen BK164.out 0); (have hfz28_1 := blk_frozen BK164.out 1); (have hfz28_2 := blk_frozen BK164.out 2); (go_wp2_with (first | ((with_reducible refine gate_callee (f := 73) rfl ?_); refine gl (some 46) Try.func73 #[.int .i64 x165002_6] ?_; (with_reducible refine (batch_within.calls x165002_6 false _ A21.out).mono ?_); rintro e w' ⟨rfl, ⟨nd, rfl⟩⟩; refine ⟨_, rfl, ?_⟩))); go_ret2; (exact ⟨_, by first | rfl | (simp [errW_none, errW_some] <;> rfl) | (simp [*, errW_none, errW_some] <;> rfl), (by first | exact (by first | exact Kd.R_nil _ _ _ _ _ | exact Kd.N_nil _ _ _ _ _ | exact Kd.V_nil _ _ _ _ _ | exact Kd.Q_nil _ _ _ _ _ | exact Kd.S_nil _ _ _ _ _) | (simp only [hl0_1]; exact (by first | exact Kd.R_nil _ _ _ _ _ | exact Kd.N_nil _ _ _ _ _ | exact Kd.V_nil _ _ _ _ _ | exact Kd.Q_nil _ _ _ _ _ | exact Kd.S_nil _ _ _ _ _))), (by first | exact (by (with_reducible repeat (first | apply Kd.R_alloc | apply Kd.R_drewN | apply Kd.R_drew)); exact Kd.R_mono HO_0.out (fun _ hk => hk.1)) | (simp only [hl0_1]; exact (by (with_reducible repeat (first | apply Kd.R_alloc | apply Kd.R_drewN | apply Kd.R_drew)); exact Kd.R_mono HO_0.out (fun _ hk => hk.1)))), bn1 HB GE164, by repeat (first | (with_reducible first | exact HK.out | apply Kept.alloc | apply Kept.drewN | apply Kept.drew | refine Kept.setCell ?_ (.inr GW164.out) _) | exact HK.out)⟩)
    ·rw [if_neg c6] at H; (exact absurd H (by simp))
   ·rw [if_neg c5] at H; (have c5b0 : decide (x5_1 < (t162.length : Int)) = false := decide_eq_false c5); clear c5; simp only [Option.some.injEq, Prod.mk.injEq] at H; obtain ⟨rfl, rfl, rfl⟩ := H; go_wp2; go_ret2; (exact ⟨_, by first | rfl | (simp [errW_none, errW_some] <;> rfl) | (simp [*, errW_none, errW_some] <;> rfl), (by first | exact (rn HO_4) | (simp only [hl0_1]; exact (rn HO_4))), (by first | exact (by (with_reducible repeat (first | apply Kd.R_alloc | apply Kd.R_drewN | apply Kd.R_drew)); exact Kd.R_mono HO_0.out (fun _ hk => hk.1)) | (simp only [hl0_1]; exact (by (with_reducible repeat (first | apply Kd.R_alloc | apply Kd.R_drewN | apply Kd.R_drew)); exact Kd.R_mono HO_0.out (fun _ hk => hk.1)))), bn HB, by repeat (first | (with_reducible first | exact HK.out | apply Kept.alloc | apply Kept.drewN | apply Kept.drew) | exact HK.out)⟩)
def slices_GrowNil.f (a1 : Int) : Option (List S50) := if 0 ≤ a1 then (if a1 < 5864062014805 then some [] else none) else none
theorem slices_GrowNil.zero (W : World) (base : Nat) : Kd.M k50 W base (fun _ => False) z50 (((.agg #[(.int .i64 0), (.int .u64 0), (.int .i64 0)]) : Value).cells.toList) := by
 show Kd.M k50 W base (fun _ => False) z50 [.int .i64 0, .int .u64 0, .int .i64 0]
 exact k50_mkM _ _ _ z50
set_option maxHeartbeats 400000 in
theorem slices_GrowNil.calls (a1 : Int) (r : List S50) (w : World) (h : slices_GrowNil.f a1 = some r) :
  Calls Try.prog 78 #[.slice none 0 0, .int .i64 a1] w fun e w' => ∃ v0_ : Value, e = .returned v0_ ∧ Kd.R k50 50 w' w.heap.size (fun _ => True) v0_ r ∧ Below w.heap.size w w' := by
 unfold slices_GrowNil.f at h
 by_cases h0 : 0 ≤ a1
 ·rw [if_pos h0] at h
  by_cases hlim : a1 < 5864062014805
  ·rw [if_pos hlim] at h
   obtain rfl := Option.some.inj h
   clear h
   by_cases hz : a1 = 0
   ·subst hz
    go_enter Try.func78, Try.ntmps78
    go_wp2
    go_ret
    exact ⟨_, rfl, Kd.R_nil _ _ _ _ _, Below.refl _ _⟩
   ·have hpos : 0 < a1 := by omega
    clear hz
    have HP := Aside0.mk hpos
    have HL := Aside0.mk hlim
    go_enter Try.func78, Try.ntmps78
    go_wp2_with (first | ((with_reducible refine gate_builtin (b := .append) (xs := #[.tmp 20, .tmp 21]) rfl ?_); at_builtin; refine Kd.R_append_zeros k50 (w0 := w) w.heap.size rfl (.tmp 20) (.tmp 21) 25 3 50 (.agg #[(.int .i64 0), (.int .u64 0), (.int .i64 0)]) 24 rfl Try.underlying25 Try.underlying3 info50 rfl (by decide) (by omega) (.slice none 0 0) [] z50 a1 (fun _ => True) rfl rfl (slices_GrowNil.zero _ _) (fun _ _ => trivial) (Kd.R_nil _ _ _ _ _) (by have := HP.out; omega) (Below.refl _ _) (Nat.le_refl _) (by have := HL.out; have := HP.out; simp only [List.length_nil]; omega) ?_; intro v1 w1 ho hb hg hat; obtain ⟨A1, c1, e1⟩ := Kd.R_slice ho; subst e1; have HO := Aside0.mk ho; have HB := Aside0.mk hb; clear ho hb hg hat))
    go_ret
    exact ⟨_, rfl, by have := Kd.R_take HO.out (m := 0) (Nat.zero_le _); rwa [List.take_zero] at this, HB.out⟩
  ·rw [if_neg hlim] at h
   cases h
 ·rw [if_neg h0] at h
  cases h
/-! ### batch_Change_57: function 57 -/
mutual
def batch_Change_57.l0 : Nat → List (List (S50)) → Int → List (List (S50)) → Int → Int → Option ((List (S50)))
 | 0, _, _, _, _, _ => none
 | k + 1, x0, x3, x9, x10, x11 => if x11 < x10 then (if 0 ≤ x11 then (if x11 < (x9.length : Int) then (if (wrap64 (x3 + ((rd_L4 x9 x11).length : Int))) < 0 then (none) else (batch_Change_57.l0 k x0 (wrap64 (x3 + ((rd_L4 x9 x11).length : Int))) x9 x10 (wrap64 (x11 + 1)))) else (none)) else (none)) else ((slices_GrowNil.f x3).bind fun t337 => (batch_Change_57.l1 k t337 x0 (x0.length : Int) 0))
def batch_Change_57.l1 : Nat → List (S50) → List (List (S50)) → Int → Int → Option ((List (S50)))
 | 0, _, _, _, _ => none
 | k + 1, x6, x25, x26, x27 => if x27 < x26 then (if 0 ≤ x27 then (if x27 < (x25.length : Int) then (if x6.length + (rd_L4 x25 x27).length < 5864062014805 then (batch_Change_57.l1 k (x6 ++ (rd_L4 x25 x27)) x25 x26 (wrap64 (x27 + 1))) else (none)) else (none)) else (none)) else (some x6)
end
def batch_Change_57.f (k : Nat) (l0 : List (List (S50))) : Option ((List (S50))) := batch_Change_57.l0 k l0 0 l0 (l0.length : Int) 0
theorem batch_Change_57.mono_l : ∀ k, (∀ y0 y1 y2 y3 y4, LeO (batch_Change_57.l0 k y0 y1 y2 y3 y4) (batch_Change_57.l0 (k + 1) y0 y1 y2 y3 y4)) ∧ (∀ y0 y1 y2 y3, LeO (batch_Change_57.l1 k y0 y1 y2 y3) (batch_Change_57.l1 (k + 1) y0 y1 y2 y3))
 | 0 => ⟨fun _ _ _ _ _ r h => by simp [batch_Change_57.l0] at h, fun _ _ _ _ r h => by simp [batch_Change_57.l1] at h⟩
 | k + 1 => by
  obtain ⟨ih0, ih1⟩ := batch_Change_57.mono_l k; refine ⟨?_, ?_⟩
  ·intro y0 y1 y2 y3 y4; unfold batch_Change_57.l0
   repeat' first
   | (with_reducible exact ih0 _ _ _ _ _)
   | (with_reducible exact ih1 _ _ _ _)
   | (with_reducible exact LeO.refl _)
   | (with_reducible exact LeO.none _)
   | (with_reducible refine LeO.ite ?_ ?_)
   | (with_reducible refine LeO.bind ?_ (fun _ => ?_))
   | exact ih0 _ _ _ _ _
   | exact ih1 _ _ _ _
   | exact LeO.none _
   | refine LeO.ite ?_ ?_
   | refine LeO.bind ?_ (fun _ => ?_)
  ·intro y0 y1 y2 y3; unfold batch_Change_57.l1
   repeat' first
   | (with_reducible exact ih0 _ _ _ _ _)
   | (with_reducible exact ih1 _ _ _ _)
   | (with_reducible exact LeO.refl _)
   | (with_reducible exact LeO.none _)
   | (with_reducible refine LeO.ite ?_ ?_)
   | (with_reducible refine LeO.bind ?_ (fun _ => ?_))
   | exact ih0 _ _ _ _ _
   | exact ih1 _ _ _ _
   | exact LeO.none _
   | refine LeO.ite ?_ ?_
   | refine LeO.bind ?_ (fun _ => ?_)
theorem batch_Change_57.mono : ∀ a0 k, LeO (batch_Change_57.f k a0) (batch_Change_57.f (k + 1) a0) := by
 intro a0 k; obtain ⟨ih0, ih1⟩ := batch_Change_57.mono_l k; unfold batch_Change_57.f
 repeat' first
   | (with_reducible exact ih0 _ _ _ _ _)
   | (with_reducible exact ih1 _ _ _ _)
   | (with_reducible exact LeO.refl _)
   | (with_reducible exact LeO.none _)
   | (with_reducible refine LeO.ite ?_ ?_)
   | (with_reducible refine LeO.bind ?_ (fun _ => ?_))
   | exact ih0 _ _ _ _ _
   | exact ih1 _ _ _ _
   | exact LeO.none _
   | refine LeO.ite ?_ ?_
   | refine LeO.bind ?_ (fun _ => ?_)
set_option maxHeartbeats 8000000 in
set_option maxRecDepth 100000 in
theorem batch_Change_57.calls (k : Nat) (A0 : Option Addr) (c0 : Nat) (l0 : List (List (S50))) (r : List (S50)) (w : World) (hr0 : Kd.C (Kd.slice 50 k50) w A0 l0.length l0) (hc0 : l0.length ≤ c0) (h : batch_Change_57.f k l0 = some r) :
  Calls Try.prog 57 #[.slice A0 l0.length c0] w fun e w' => ∃ v0_ : Value, e = .returned (v0_) ∧ Kd.R k50 50 w' w.heap.size (fun _ => True) v0_ r ∧ Below w.heap.size w w' := by
 (have HR0 := Aside0.mk hr0); (have HC0 := Aside0.mk hc0); clear hr0 hc0; (have HB := Aside0.mk (Below.refl w.heap.size w)); (have H : (batch_Change_57.l0 k l0 0 l0 (l0.length : Int) 0) = some r := h); clear h; (have H' := Aside0.mk H); clear H; go_enter Try.func57, Try.ntmps57; go_wp2; (go_loopg [3, 11] k (fun kq v3 v11 w' => ∃ (x3_1 : Int) (x11_1 : Int), v3 = .int .i64 x3_1 ∧ v11 = .int .i64 x11_1 ∧ Aside0 (batch_Change_57.l0 kq l0 x3_1 l0 (l0.length : Int) x11_1 = some r) ∧ Aside0 (kq ≤ k) ∧ Aside0 (Below w.heap.size w w')))
 case atStart => exact ⟨(0), (0), qr_, qr_, H', ⟨Nat.le_refl _⟩, ⟨bn HB⟩⟩
 case round =>
  clear H'; obtain ⟨x3_1, x11_1, rfl, rfl, HA, HK1, HB⟩ := hrel
  cases gk with
  | zero => exact absurd HA.out (by simp [batch_Change_57.l0])
  | succ k1 =>
   (have H := HA.out); clear HA; simp only [batch_Change_57.l0] at H; by_cases c2 : x11_1 < (l0.length : Int)
   ·rw [if_pos c2] at H; (have c2b0 : decide (x11_1 < (l0.length : Int)) = true := decide_eq_true c2); clear c2; by_cases c3 : 0 ≤ x11_1
    ·rw [if_pos c3] at H; (have c3b0 : decide (0 ≤ x11_1) = true := decide_eq_true c3); clear c3; by_cases c4 : x11_1 < (l0.length : Int)
     ·rw [if_pos c4] at H; (have c4b0 : decide (x11_1 < (l0.length : Int)) = true := decide_eq_true c4); clear c4; by_cases c5 : (wrap64 (x3_1 + ((rd_L4 l0 x11_1).length : Int))) < 0
      ·rw [if_pos c5] at H; (exact absurd H (by simp))
      ·rw [if_neg c5] at H; (have c5b0 : decide ((wrap64 (x3_1 + ((rd_L4 l0 x11_1).length : Int))) < 0) = false := decide_eq_false c5); clear c5; (have H' := Aside0.mk H); clear H; (have p336 : 0 ≤ (x11_1 : Int) := of_decide_eq_true (by assumption)); (have q336 : x11_1 < (l0.length : Int) := of_decide_eq_true (by assumption)); obtain ⟨ad336, A336_0, c336_0, e336, hx336_0, hl336_0, hi336_0⟩ := at_L4 HR0.out x11_1 p336 q336; cases e336; (replace hx336_0 := ct HB hx336_0); (have HR336_0 := Aside0.mk hi336_0); (have HC336_0 := Aside0.mk hl336_0); clear hi336_0 hl336_0; (replace p336 := eq_true p336); (replace q336 := eq_true q336); go_wp2; go_roundg k1
       case measure => have := HK1.out; omega
       case rel => exact ⟨(wrap64 (x3_1 + ((rd_L4 l0 x11_1).length : Int))), (wrap64 (x11_1 + 1)), qr_, qr_, H', ⟨by have := HK1.out; omega⟩, ⟨bn HB⟩⟩
     ·rw [if_neg c4] at H; (exact absurd H (by simp))
    ·rw [if_neg c3] at H; (exact absurd H (by simp))
   ·rw [if_neg c2] at H; (have c2b0 : decide (x11_1 < (l0.length : Int)) = false := decide_eq_false c2); clear c2; (replace H := Option.bind_eq_some_iff.mp H); obtain ⟨t337, A60, H⟩ := H; (replace H : (batch_Change_57.l1 k1 t337 l0 (l0.length : Int) 0) = some r := H); (have A6 := Aside0.mk A60); clear A60; (have H' := Aside0.mk H); clear H; (go_wp2_with (first | ((with_reducible refine gate_callee (f := 78) rfl ?_); refine gl (some 24) Try.func78 #[.slice none 0 0, .int .i64 x3_1] ?_; (with_reducible refine (slices_GrowNil.calls  x3_1 t337 _ A6.out).mono ?_); rintro e w7 ⟨v338, rfl, ho0, hb⟩; refine ⟨_, rfl, ?_⟩; have n0_ := Aside0.mk (Kd.R_lower ho0 (below_size (bn HB))); have HO339 := n0_; replace HB := bb HB hb; clear n0_; (try clear hb); (try clear ho0)))); (go_loopg [6, 27] k1 (fun kq v6 v27 w' => ∃ (x6_2 : List (S50)) (x27_2 : Int), v27 = .int .i64 x27_2 ∧ Aside0 (batch_Change_57.l1 kq x6_2 l0 (l0.length : Int) x27_2 = some r) ∧ Aside0 (kq ≤ k1) ∧ Aside0 (Kd.R k50 50 w' w.heap.size (fun _ => True) v6 x6_2) ∧ Aside0 (Below w.heap.size w w')))
    case atStart => exact ⟨(t337), (0), qr_, H', ⟨Nat.le_refl _⟩, ⟨rn HO339⟩, ⟨bn HB⟩⟩
    case round =>
     clear H'; obtain ⟨x6_2, x27_2, rfl, HA, HK2, HO_6, HB⟩ := hrel
     cases gk with
     | zero => exact absurd HA.out (by simp [batch_Change_57.l1])
     | succ k2 =>
      (have H := HA.out); clear HA; simp only [batch_Change_57.l1] at H; by_cases c8 : x27_2 < (l0.length : Int)
      ·rw [if_pos c8] at H; (have c8b0 : decide (x27_2 < (l0.length : Int)) = true := decide_eq_true c8); clear c8; by_cases c9 : 0 ≤ x27_2
       ·rw [if_pos c9] at H; (have c9b0 : decide (0 ≤ x27_2) = true := decide_eq_true c9); clear c9; by_cases c10 : x27_2 < (l0.length : Int)
        ·rw [if_pos c10] at H; (have c10b0 : decide (x27_2 < (l0.length : Int)) = true := decide_eq_true c10); clear c10; by_cases c11 : x6_2.length + (rd_L4 l0 x27_2).length < 5864062014805
         ·rw [if_pos c11] at H; (have LMc11 := Aside0.mk c11); clear c11; obtain ⟨y341, hy341⟩ : ∃ y_ : List (S50), y_ = (x6_2 ++ (rd_L4 l0 x27_2)) := ⟨_, rfl⟩; (replace H : (batch_Change_57.l1 k2 y341 l0 (l0.length : Int) (wrap64 (x27_2 + 1))) = some r := by first | (rw [hy341]; with_reducible exact H) | (have H2_ := (Option.bind_some _ _).symm.trans H; rw [hy341]; with_reducible exact H2_) | (have H2_ := (Option.bind_some _ _).symm.trans H; with_reducible exact H2_) | with_reducible exact H | (rw [hy341]; exact H) | exact H); (have Ny341 := Aside0.mk hy341); clear hy341; (have H' := Aside0.mk H); clear H; (have p340 : 0 ≤ (x27_2 : Int) := of_decide_eq_true (by assumption)); (have q340 : x27_2 < (l0.length : Int) := of_decide_eq_true (by assumption)); obtain ⟨ad340, A340_0, c340_0, e340, hx340_0, hl340_0, hi340_0⟩ := at_L4 HR0.out x27_2 p340 q340; cases e340; (replace hx340_0 := ct HB hx340_0); (have HR340_0 := Aside0.mk hi340_0); (have HC340_0 := Aside0.mk hl340_0); clear hi340_0 hl340_0; (replace p340 := eq_true p340); (replace q340 := eq_true q340); (go_wp2_with (first | ((with_reducible refine gate_builtin (b := .append) (xs := #[.tmp 31, .tmp 32]) rfl ?_); at_builtin; refine Kd.R_append_rows k50 (w0 := w) w.heap.size rfl (.tmp 31) (.tmp 32) 25 50 (.agg #[(.int .i64 0), (.int .u64 0), (.int .i64 0)]) 24 rfl Try.underlying25 info50 rfl (by decide) (by omega) u6 x6_2 (rd_L4 l0 x27_2) _ _ _ (fun _ => True) (fun _ => False) rfl rfl ?aO ?aR (fun _ _ h => h) (fun _ h => h.elim) ?aF ?aB ?aS ?aL ?_; (case aR => repeat (first | exact (Kd.C_below HR340_0.out HB.out) | (with_reducible refine Kd.C_alloc ?_ _) | (with_reducible refine Kd.C_drewN ?_ _) | (with_reducible refine Kd.C_drew ?_))); (case aB => exact (bn HB)); (case aF => exact (fun _ _ => trivial)); (case aO => exact (rn HO_6)); (case aS => exact (below_size (bn HB))); (case aL => have := LMc11.out; omega); intro v342 w12 ho hb hg hat; rw [← Ny341.out] at ho; have n0_ := Aside0.mk (hb); have n1_ := Aside0.mk (ho); clear HB; clear HO_6; have HB := n0_; have HO343 := n1_; clear n0_ n1_; clear ho hb hg hat))); go_roundg k2
          case measure => have := HK1.out; have := HK2.out; omega
          case rel => exact ⟨(y341), (wrap64 (x27_2 + 1)), qr_, H', ⟨by have := HK1.out; have := HK2.out; omega⟩, ⟨rn HO343⟩, ⟨bn HB⟩⟩
         ·rw [if_neg c11] at H; (exact absurd H (by simp))
        ·rw [if_neg c10] at H; (exact absurd H (by simp))
       ·rw [if_neg c9] at H; (exact absurd H (by simp))
      ·rw [if_neg c8] at H; (have c8b0 : decide (x27_2 < (l0.length : Int)) = false := decide_eq_false c8); clear c8; obtain rfl := Option.some.inj H; go_wp2; go_ret; (exact ⟨_, by first | rfl | (simp [errW_none, errW_some] <;> rfl) | (simp [*, errW_none, errW_some] <;> rfl), rn HO_6, bn HB⟩)
/-! ### batch_Merge: function 25 -/
def batch_Merge.f (k : Nat) (l0 : List (S50)) (l1 : List (S50)) : Option ((List (S50)) × Int) := (batch_Change_57.f k (([l0, l1] : List (List (S50))))).bind fun t347 => ((batch_summed.f k t347).bind fun bt350 => (some (bt350.1, bt350.2.1)))
theorem batch_Merge.mono : ∀ a0 a1 k, LeO (batch_Merge.f k a0 a1) (batch_Merge.f (k + 1) a0 a1) := by
 intro a0 a1 k; unfold batch_Merge.f
 repeat' first
   | (with_reducible exact batch_Change_57.mono _ _)
   | (with_reducible exact batch_summed.mono _ _)
   | (with_reducible exact LeO.refl _)
   | (with_reducible exact LeO.none _)
   | (with_reducible refine LeO.ite ?_ ?_)
   | (with_reducible refine LeO.bind ?_ (fun _ => ?_))
   | exact batch_Change_57.mono _ _
   | exact batch_summed.mono _ _
   | exact LeO.none _
   | refine LeO.ite ?_ ?_
   | refine LeO.bind ?_ (fun _ => ?_)
set_option maxHeartbeats 8000000 in
set_option maxRecDepth 100000 in
theorem batch_Merge.calls (k : Nat) (P0_ : Nat → Prop) (A0 : Option Addr) (c0 : Nat) (l0 : List (S50)) (P1_ : Nat → Prop) (A1 : Option Addr) (c1 : Nat) (l1 : List (S50)) (r1 : List (S50)) (r2 : Int) (w : World) (hs0 : Kd.V k50 50 w w.heap.size (fun k_ => P0_ k_) (.slice A0 l0.length c0) l0) (hs1 : Kd.V k50 50 w w.heap.size (fun k_ => P1_ k_) (.slice A1 l1.length c1) l1) (h : batch_Merge.f k l0 l1 = some (r1, r2)) :
  Calls Try.prog 25 #[.slice A0 l0.length c0, .slice A1 l1.length c1] w fun e w' => ∃ v0_ : Value, e = .returned (.tuple #[v0_, .int .i64 r2]) ∧ Kd.R k50 50 w' w.heap.size (fun k_ => (w.heap.size ≤ k_)) v0_ r1 ∧ Below w.heap.size w w' := by
 (have HO0 := Aside0.mk (show Kd.V k50 50 w w.heap.size (fun k_ => ((P0_ k_ ∨ P1_ k_) ∨ w.heap.size ≤ k_)) (.slice A0 l0.length c0) l0 from Kd.V_mono hs0 (fun k_ hk => .inl (.inl hk)))); (have HO1 := Aside0.mk (show Kd.V k50 50 w w.heap.size (fun k_ => ((P0_ k_ ∨ P1_ k_) ∨ w.heap.size ≤ k_)) (.slice A1 l1.length c1) l1 from Kd.V_mono hs1 (fun k_ hk => .inl (.inr hk)))); (have HB := Aside0.mk (Below.refl w.heap.size w)); (have H : ((batch_Change_57.f k (([l0, l1] : List (List (S50))))).bind fun t347 => ((batch_summed.f k t347).bind fun bt350 => (some (bt350.1, bt350.2.1)))) = some (r1, r2) := h); clear h; obtain ⟨y344, hy344⟩ : ∃ y_ : List (List (S50)), y_ = (([l0, l1] : List (List (S50)))) := ⟨_, rfl⟩; (replace H : ((batch_Change_57.f k y344).bind fun t347 => ((batch_summed.f k t347).bind fun bt350 => (some (bt350.1, bt350.2.1)))) = some (r1, r2) := by first | (rw [hy344]; with_reducible exact H) | (have H2_ := (Option.bind_some _ _).symm.trans H; rw [hy344]; with_reducible exact H2_) | (have H2_ := (Option.bind_some _ _).symm.trans H; with_reducible exact H2_) | with_reducible exact H | (rw [hy344]; exact H) | exact H); (have Ny344 := Aside0.mk hy344); clear hy344; (replace H := Option.bind_eq_some_iff.mp H); obtain ⟨t347, A30, H⟩ := H; (replace H : ((batch_summed.f k t347).bind fun bt350 => (some (bt350.1, bt350.2.1))) = some (r1, r2) := H); (have A3 := Aside0.mk A30); clear A30; (replace H := Option.bind_eq_some_iff.mp H); obtain ⟨⟨t350, t353, t354⟩, A40, H⟩ := H; (replace H : (some (t350, t353)) = some (r1, r2) := H); (have A4 := Aside0.mk A40); clear A40; simp only [Option.some.injEq, Prod.mk.injEq] at H; obtain ⟨rfl, rfl⟩ := H; go_enter Try.func25, Try.ntmps25; (go_wp2_with (first | ((with_reducible refine gate_dst (N := 8) rfl ?_); refine Kd.N_lit (Kd.slice 50 k50) _ 25 ?hg (N' := 8) ?hd (xs := ([l0, l1] : List (List (S50)))) (inner := [.slice A0 l0.length c0, .slice A1 l1.length c1]) (ok := (fun k_ => ((P0_ k_ ∨ P1_ k_) ∨ w.heap.size ≤ k_))) (okp := (fun k_ => ((P0_ k_ ∨ P1_ k_) ∨ w.heap.size ≤ k_))) ?hr ?hp (fun _ hk => hk) ((show ∀ k_, w.heap.size ≤ k_ → (fun k_ => ((P0_ k_ ∨ P1_ k_) ∨ w.heap.size ≤ k_)) k_ from fun k_ hk => (.inr (Nat.le_trans (below_size (bn HB)) hk))) _ (Nat.le_refl _)) (Below.refl _ _) (Nat.le_refl _) (by simp) ?_; (case hd => rfl); (case hg => rfl); (case hr => first | (go_simp; done) | (go_simp; rfl)); (case hp => exact (Reps.one (show Kd.FK (Kd.slice 50 k50) _ _ l0 [.slice A0 l0.length c0] from (Kd.FK_slice_mk (Kd.V_reads' (Kd.V_mono (ok' := (fun k_ => ((P0_ k_ ∨ P1_ k_) ∨ w.heap.size ≤ k_))) (HO0.out) (fun k_ hk => hk))).2.1 (Kd.V_F (Kd.V_mono (ok' := (fun k_ => ((P0_ k_ ∨ P1_ k_) ∨ w.heap.size ≤ k_))) (HO0.out) (fun k_ hk => hk))))) (Reps.one (show Kd.FK (Kd.slice 50 k50) _ _ l1 [.slice A1 l1.length c1] from (Kd.FK_slice_mk (Kd.V_reads' (Kd.V_mono (ok' := (fun k_ => ((P0_ k_ ∨ P1_ k_) ∨ w.heap.size ≤ k_))) (HO1.out) (fun k_ hk => hk))).2.1 (Kd.V_F (Kd.V_mono (ok' := (fun k_ => ((P0_ k_ ∨ P1_ k_) ∨ w.heap.size ≤ k_))) (HO1.out) (fun k_ hk => hk))))) (Reps.none _ _)))); intro v345 w5 ho6 hb hg_ hnew_; clear hg_ hnew_; (first | rw [← Ny344.out] at ho6 | (simp only [Int.reduceToNat] at ho6; rw [← Ny344.out] at ho6)); have n0_ := Aside0.mk (Kd.V_elder' (by (with_reducible repeat (first | apply Kd.V_alloc | apply Kd.V_drewN | apply Kd.V_drew)); exact HO0.out) (Kd.N_base ho6) hb); have n1_ := Aside0.mk (Kd.V_elder' (by (with_reducible repeat (first | apply Kd.V_alloc | apply Kd.V_drewN | apply Kd.V_drew)); exact HO1.out) (Kd.N_base ho6) hb); have n2_ := Aside0.mk (Kd.N_lower ho6 (below_size (bn HB))); clear HO0; clear HO1; have HO0 := n0_; have HO1 := n1_; have HO346 := n2_; replace HB := bb HB hb; clear n0_ n1_ n2_; clear hb ho6; obtain ⟨Ao7, co7, eo7⟩ := Kd.N_slice HO346.out; subst eo7) | ((with_reducible refine gate_callee (f := 57) rfl ?_); refine gl (some 9) Try.func57 #[.slice Ao7 y344.length co7] ?_; (with_reducible refine (batch_Change_57.calls k _ _ y344 t347 _ ?side1 ?side2 A3.out).mono ?_); (case side1 => repeat (first | exact (Kd.N_reads' HO346.out).2.2 | (with_reducible refine Kd.C_alloc ?_ _) | (with_reducible refine Kd.C_drewN ?_ _) | (with_reducible refine Kd.C_drew ?_))); (case side2 => exact (Kd.N_reads' HO346.out).2.1); rintro e w8 ⟨v348, rfl, ho0, hb⟩; refine ⟨_, rfl, ?_⟩; have n0_ := Aside0.mk (Kd.V_elder' (by (with_reducible repeat (first | apply Kd.V_alloc | apply Kd.V_drewN | apply Kd.V_drew)); exact HO0.out) (Kd.R_base ho0) hb); have n1_ := Aside0.mk (Kd.V_elder' (by (with_reducible repeat (first | apply Kd.V_alloc | apply Kd.V_drewN | apply Kd.V_drew)); exact HO1.out) (Kd.R_base ho0) hb); have n2_ := Aside0.mk (Kd.N_elder' (by (with_reducible repeat (first | apply Kd.N_alloc | apply Kd.N_drewN | apply Kd.N_drew)); exact HO346.out) (Kd.R_base ho0) hb); have n3_ := Aside0.mk (Kd.R_lower (Kd.R_newM (M := fun k_ => (w.heap.size ≤ k_)) ho0 (below_size (bn HB)) (fun k_ h_ => h_)) (below_size (bn HB))); clear HO0; clear HO1; clear HO346; have HO0 := n0_; have HO1 := n1_; have HO346 := n2_; have HO349 := n3_; replace HB := bb HB hb; clear n0_ n1_ n2_ n3_; (try clear hb); (try clear ho0); obtain ⟨Ao9, co9, eo9⟩ := Kd.R_slice HO349.out; subst eo9) | ((with_reducible refine gate_callee (f := 49) rfl ?_); refine gl (some 10) Try.func49 #[.slice Ao9 t347.length co9] ?_; (with_reducible refine (batch_summed.calls k (fun k_ => some k_ = (.slice Ao9 t347.length co9 : Value).ownBlock) (.slice Ao9 t347.length co9) t347 t350 t353 t354 w _ ?side1 ?side2 A4.out).mono ?_); (case side1 => repeat (first | (with_reducible first | exact HB.out | apply below_alloc | apply pw_below_drewN | apply below_drew1) | exact HB.out)); (case side2 => exact Kd.R_tight rfl HO349.out); rintro e w10 ⟨v351, rfl, ho0, hy0, hb, hkp⟩; refine ⟨_, rfl, ?_⟩; have n0_ := Aside0.mk (Kd.V_mono (ok' := fun k_ => ((P0_ k_ ∨ P1_ k_) ∨ w.heap.size ≤ k_) ∧ some k_ ≠ (.slice Ao7 y344.length co7 : Value).ownBlock ∧ some k_ ≠ (.slice Ao9 t347.length co9 : Value).ownBlock ∧ some k_ ≠ (v351 : Value).ownBlock) (Kd.V_keptB (HO0.out) hkp (fun k_ hk_ hs_ => (hk_.2) hs_)) (fun k_ hk_ => ⟨hk_.1.1.1, hk_.1.1.2, hk_.1.2, fun e_ => Or.elim (ho0.1 k_ e_.symm).1 (fun hs_ => hk_.2.1 hs_) (fun hn_ => Nat.not_le.2 hk_.2.2 hn_)⟩)); have n1_ := Aside0.mk (Kd.V_mono (ok' := fun k_ => ((P0_ k_ ∨ P1_ k_) ∨ w.heap.size ≤ k_) ∧ some k_ ≠ (.slice Ao7 y344.length co7 : Value).ownBlock ∧ some k_ ≠ (.slice Ao9 t347.length co9 : Value).ownBlock ∧ some k_ ≠ (v351 : Value).ownBlock) (Kd.V_keptB (HO1.out) hkp (fun k_ hk_ hs_ => (hk_.2) hs_)) (fun k_ hk_ => ⟨hk_.1.1.1, hk_.1.1.2, hk_.1.2, fun e_ => Or.elim (ho0.1 k_ e_.symm).1 (fun hs_ => hk_.2.1 hs_) (fun hn_ => Nat.not_le.2 hk_.2.2 hn_)⟩)); have n2_ := Aside0.mk (Kd.N_mono (ok' := fun k_ => ((P0_ k_ ∨ P1_ k_) ∨ w.heap.size ≤ k_) ∧ some k_ ≠ (.slice Ao9 t347.length co9 : Value).ownBlock ∧ some k_ ≠ (v351 : Value).ownBlock) (Kd.N_keptB (HO346.out) hkp (fun k_ hk_ hs_ => (hk_.2) hs_)) (fun k_ hk_ => ⟨hk_.1.1, hk_.1.2, fun e_ => Or.elim (ho0.1 k_ e_.symm).1 (fun hs_ => hk_.2.1 hs_) (fun hn_ => Nat.not_le.2 hk_.2.2 hn_)⟩)); have n3_ := Aside0.mk (Kd.R_reok rfl hy0 (fun k_ e_ => HO349.out.1 k_ e_)); have n4_ := Aside0.mk (Kd.R_mono (ok' := fun k_ => (w.heap.size ≤ k_) ∧ some k_ ≠ (.slice Ao9 t347.length co9 : Value).ownBlock) ho0 (fun k_ hk_ => ⟨Or.elim hk_.1 (fun hs_ => (HO349.out.1 k_ (hs_).symm).1) (fun hn_ => (Nat.le_trans (below_size (bn HB)) hn_)), hk_.2⟩)); have n5_ := Aside0.mk (hb); clear HO0; clear HO1; clear HO346; clear HO349; clear HB; have HO0 := n0_; have HO1 := n1_; have HO346 := n2_; have HO349 := n3_; have HO352 := n4_; have HB := n5_; clear n0_ n1_ n2_ n3_ n4_ n5_; (try clear hb); (try clear hkp); (try clear ho0); (try clear hy0))))
 go_ret2; (exact ⟨_, by first | rfl | (simp [errW_none, errW_some] <;> rfl) | (simp [*, errW_none, errW_some] <;> rfl), by (with_reducible repeat (first | apply Kd.R_alloc | apply Kd.R_drewN | apply Kd.R_drew)); exact Kd.R_mono HO352.out (fun _ hk => hk.1), bn HB⟩)
def idxOf {α : Type} (p : α → Bool) (l : List α) : Int := match l.findIdx? p with | some i => (i : Int) | none => -1
theorem idxOf_any {α : Type} (p : α → Bool) (l : List α) : decide (idxOf p l ≥ 0) = l.any p := by
 unfold idxOf
 cases h : l.findIdx? p with
 | none =>
  have h1 := List.findIdx?_eq_none_iff.1 h
  have : l.any p = false := by
   rw [List.any_eq_false]
   intro x hx
   simpa using h1 x hx
  rw [this]
  decide
 | some i =>
  obtain ⟨hi, h1⟩ := List.findIdx?_eq_some_iff_getElem.1 h
  have h2 : l.any p = true := List.any_eq_true.2 ⟨l[i], List.getElem_mem _, h1.1⟩
  rw [h2]
  show decide ((i : Int) ≥ 0) = true
  exact decide_eq_true (by omega)
theorem idxOf_at {α : Type} (p : α → Bool) (l : List α) (d : α) (i : Nat) (hi : i < l.length) (h : p (l.getD i d) = true) (hb : ∀ j, j < i → p (l.getD j d) = false) : idxOf p l = (i : Int) := by
 unfold idxOf
 have : l.findIdx? p = some i := by
  rw [List.findIdx?_eq_some_iff_getElem]
  refine ⟨hi, ⟨by simpa [List.getD, hi] using h, fun j hj => ?_⟩⟩
  have := hb j hj
  simp [List.getD, show j < l.length by omega] at this
  simp [this]
 rw [this]
theorem idxOf_no {α : Type} (p : α → Bool) (l : List α) (d : α) (hb : ∀ j, j < l.length → p (l.getD j d) = false) : idxOf p l = -1 := by
 unfold idxOf
 have : l.findIdx? p = none := by
  rw [List.findIdx?_eq_none_iff]
  intro x hx
  obtain ⟨j, hj, rfl⟩ := List.getElem_of_mem hx
  have := hb j hj
  simpa [List.getD, hj] using this
 rw [this]
set_option maxHeartbeats 1000000 in
set_option maxRecDepth 100000 in
theorem indexFunc_calls (g : FuncId) (lb : Array Value) (p : S50 → Bool) (he : ∀ (args : Array Value) (w : World), (callFunc g args).run Try.prog w = .ok (.enter g args) w) (A0 : Option Addr) (c0 : Nat) (l0 : List S50) (w : World) (hr0 : Kd.C k50 w A0 l0.length l0)
  (hp : ∀ W : World, Below w.heap.size w W → ∀ x : S50, x ∈ l0 → Calls Try.prog g (#[.agg #[.int .i64 x.f0, .int .u64 x.f1, .int .i64 x.f2]] ++ lb) W fun e w' => e = .returned (.bool (p x)) ∧ Below W.heap.size W w') :
  Calls Try.prog 79 #[.slice A0 l0.length c0, .func (.func g) #[] lb] w fun e w' => e = .returned (.int .i64 (idxOf p l0)) ∧ Below w.heap.size w w' := by
 have HR := Aside0.mk hr0
 have HP := Aside0.mk hp
 have hm := hr0.2.1
 clear hr0 hp
 go_enter Try.func79, Try.ntmps79
 go_wp2
 go_loopw [8] (fun v8 wr => ∃ i : Int, v8 = .int .i64 i ∧ Aside0 (0 ≤ i ∧ i ≤ l0.length ∧ ∀ j : Nat, (j : Int) < i → p (l0.getD j z50) = false) ∧ Aside0 (Below w.heap.size w wr)) (fun v8 _ => l0.length - (intOf v8).toNat)
 case atStart => exact ⟨0, rfl, ⟨by omega, by omega, fun j hj => by omega⟩, ⟨Below.refl _ _⟩⟩
 case round =>
  obtain ⟨i, rfl, HI, HB⟩ := hrel
  have h0 := HI.out.1
  have h1 := HI.out.2.1
  by_cases hlt : i < (l0.length : Int)
  ·obtain ⟨ad, rfl, hx0, hx1, hx2⟩ := at_T50 (Kd.C_below HR.out HB.out) i h0 hlt
   have hmem : (rd_T50 l0 i) ∈ l0 := by
    unfold rd_T50
    rw [List.getD_eq_getElem?_getD, List.getElem?_eq_getElem (by omega)]
    exact List.getElem_mem _
   have HC := Aside0.mk (HP.out wr HB.out (rd_T50 l0 i) hmem)
   clear hmem
   cases hpx : p (rd_T50 l0 i) with
   | true =>
    have HX := Aside0.mk hpx
    rw [hpx] at HC
    clear hpx
    go_wp2_with (first | ((with_reducible refine HC.out.mono ?_); rintro e w3 ⟨rfl, hb⟩; have HB3 := Aside0.mk (below_step HB.out hb); clear hb))
    go_ret
    have e1 : idxOf p l0 = i := by rw [idxOf_at p l0 z50 i.toNat (by omega) HX.out (fun j hj => HI.out.2.2 j (by omega))]; exact Int.toNat_of_nonneg h0
    exact ⟨by rw [e1]; rfl, HB3.out⟩
   | false =>
    have HX := Aside0.mk hpx
    rw [hpx] at HC
    clear hpx
    go_wp2_with (first | ((with_reducible refine HC.out.mono ?_); rintro e w3 ⟨rfl, hb⟩; have HB3 := Aside0.mk (below_step HB.out hb); clear hb))
    go_roundw
    case rel =>
     refine ⟨i + 1, by go_num, ⟨by omega, by omega, fun j hj => ?_⟩, ⟨HB3.out⟩⟩
     by_cases hj2 : (j : Int) < i
     ·exact HI.out.2.2 j hj2
     ·obtain rfl : j = i.toNat := by omega
      exact HX.out
    case measure => simp [intOf]; omega
  ·go_wp2
   go_ret
   exact ⟨by rw [idxOf_no p l0 z50 (fun j hj => HI.out.2.2 j (by omega))]; rfl, HB.out⟩
set_option maxHeartbeats 400000 in
theorem containsFunc_calls (g : FuncId) (lb : Array Value) (p : S50 → Bool) (he : ∀ (args : Array Value) (w : World), (callFunc g args).run Try.prog w = .ok (.enter g args) w) (A0 : Option Addr) (c0 : Nat) (l0 : List S50) (w : World) (hr0 : Kd.C k50 w A0 l0.length l0)
  (hp : ∀ W : World, Below w.heap.size w W → ∀ x : S50, x ∈ l0 → Calls Try.prog g (#[.agg #[.int .i64 x.f0, .int .u64 x.f1, .int .i64 x.f2]] ++ lb) W fun e w' => e = .returned (.bool (p x)) ∧ Below W.heap.size W w') :
  Calls Try.prog 59 #[.slice A0 l0.length c0, .func (.func g) #[] lb] w fun e w' => e = .returned (.bool (l0.any p)) ∧ Below w.heap.size w w' := by
 have HC := Aside0.mk (indexFunc_calls g lb p he A0 c0 l0 w hr0 hp)
 clear hr0 hp he
 have HA := Aside0.mk (idxOf_any p l0)
 generalize hq : idxOf p l0 = q at HC HA
 clear hq
 go_enter Try.func59, Try.ntmps59
 go_wp2_with (first | (go_at_call 79; refine HC.out.mono ?_; rintro e w3 ⟨rfl, hb⟩; have HB3 := Aside0.mk hb; clear hb))
 go_ret
 exact ⟨by rw [← HA.out]; rfl, HB3.out⟩
def slices_ContainsNone.f (l0 : List S50) : Option Bool := some (l0.any fun x => decide (x.f2 ≤ 0))
set_option maxHeartbeats 400000 in
theorem none_calls (x : S50) (W : World) : Calls Try.prog 61 (#[.agg #[.int .i64 x.f0, .int .u64 x.f1, .int .i64 x.f2]] ++ #[]) W fun e w' => e = .returned (.bool (decide (x.f2 ≤ 0))) ∧ Below W.heap.size W w' := by
 show Calls Try.prog 61 #[.agg #[.int .i64 x.f0, .int .u64 x.f1, .int .i64 x.f2]] W _
 go_enter Try.func61, Try.ntmps61
 go_wp2
 go_ret
 exact ⟨rfl, (Below.refl _ _).alloc (Nat.le_refl _) _⟩
theorem slices_ContainsNone.calls (A0 : Option Addr) (c0 : Nat) (l0 : List S50) (r : Bool) (w : World) (hr0 : Kd.C k50 w A0 l0.length l0) (hc0 : l0.length ≤ c0) (h : slices_ContainsNone.f l0 = some r) :
  Calls Try.prog 59 #[.slice A0 l0.length c0, .func (.func 61) #[] #[]] w fun e w' => e = .returned (.bool r) ∧ Below w.heap.size w w' := by
 obtain rfl := Option.some.inj h
 exact containsFunc_calls 61 #[] _ (fun args w => enters_ Try.func61 (by kernel_rfl) rfl args w) A0 c0 l0 w hr0 (fun W _ x _ => none_calls x W)
end Go.Proofs.Ytgeldmhgbnamcaa.P
end
section
/- slices.BinarySearchFunc of changes, by hand, in nothing. (It stands in the place of the printed text of the same name where a claim needs no more of it.) -/
namespace Go.Proofs.Ytgeldmhgbnamcaa.P
open Go.RowKit Go.Proofs.YtgeldmhgbnamcaaW.PrintWords Go.Proofs.YtgeldmhgbnamcaaW.PrintLast Go.Proofs.YtgeldmhgbnamcaaW.PrintMore
set_option linter.unusedVariables false
set_option linter.unusedSimpArgs false
/-! ### batch_Change_55: function 55 -/
def batch_Change_55.f (k : Nat) (l0 : List (S50)) (a1_0 : Int) (a1_1 : Int) (a1_2 : Int)  : Option (Int × Bool) := if l0.length = 0 then some (0, false) else none
theorem batch_Change_55.mono : ∀ a0 a1 a2 a3 k, LeO (batch_Change_55.f k a0 a1 a2 a3) (batch_Change_55.f (k + 1) a0 a1 a2 a3) := fun _ _ _ _ _ => LeO.refl _
set_option maxHeartbeats 1000000 in
theorem batch_Change_55.calls (k : Nat) (A0 : Option Addr) (c0 : Nat) (l0 : List (S50)) (a1_0 : Int) (a1_1 : Int) (a1_2 : Int)  (r1 : Int) (r2 : Bool) (w : World) (hr0 : Kd.C k50 w A0 l0.length l0) (hc0 : l0.length ≤ c0) (h : batch_Change_55.f k l0 a1_0 a1_1 a1_2 = some (r1, r2)) :
  Calls Try.prog 55 #[.slice A0 l0.length c0, .agg #[.int .i64 a1_0, .int .u64 a1_1, .int .i64 a1_2], .func (.func 53) #[] #[]] w fun e w' => e = .returned (.tuple #[.int .i64 r1, .bool r2]) ∧ Below w.heap.size w w' := by
 unfold batch_Change_55.f at h; by_cases hl : l0.length = 0
 ·rw [if_pos hl] at h; obtain ⟨rfl, rfl⟩ := Prod.mk.inj (Option.some.inj h); rw [hl]; clear h hr0 hc0 hl; (have h0 : decide ((0 : Int) < ((0 : Nat) : Int)) = false := rfl); go_enter Try.func55, Try.ntmps55; go_wp2; refine wp_loop_rounds 1 ?_; rw [rounds_succ]; go_wp2; (repeat (go_quiet (fail); try go_wp2)); go_ret2; (exact ⟨rfl, by repeat (first | (with_reducible first | exact Below.refl _ _ | apply below_alloc | apply pw_below_drewN | apply below_drew1) | exact Below.refl _ _)⟩)
 ·(rw [if_neg hl] at h; cases h)
/-! ### batch_Of: function 23 -/
def batch_Of.f (k : Nat) (l0 : List (S50)) (a1 : Int) (a2 : Int) : Option (Int) := (batch_Change_55.f k l0 a1 a2 0).bind fun bt229 => (if bt229.2 = true then (if 0 ≤ bt229.1 then (if bt229.1 < (l0.length : Int) then (some ((rd_T50 l0 bt229.1).f2)) else (none)) else (none)) else (some 0))
theorem batch_Of.mono : ∀ a0 a1 a2 k, LeO (batch_Of.f k a0 a1 a2) (batch_Of.f (k + 1) a0 a1 a2) := by
 intro a0 a1 a2 k; unfold batch_Of.f
 repeat' first
   | (with_reducible exact batch_Change_55.mono _ _ _ _ _)
   | (with_reducible exact LeO.refl _)
   | (with_reducible exact LeO.none _)
   | (with_reducible refine LeO.ite ?_ ?_)
   | (with_reducible refine LeO.bind ?_ (fun _ => ?_))
   | exact batch_Change_55.mono _ _ _ _ _
   | exact LeO.none _
   | refine LeO.ite ?_ ?_
   | refine LeO.bind ?_ (fun _ => ?_)
set_option maxHeartbeats 8000000 in
set_option maxRecDepth 100000 in
theorem batch_Of.calls (k : Nat) (A0 : Option Addr) (c0 : Nat) (l0 : List (S50)) (a1 : Int) (a2 : Int) (r : Int) (w : World) (hr0 : Kd.C k50 w A0 l0.length l0) (hc0 : l0.length ≤ c0) (h : batch_Of.f k l0 a1 a2 = some r) :
  Calls Try.prog 23 #[.slice A0 l0.length c0, .int .i64 a1, .int .u64 a2] w fun e w' => e = .returned (.int .i64 r) ∧ Below w.heap.size w w' := by
 (have hu50 := Try.underlying50); (have HR0 := Aside0.mk hr0); (have HC0 := Aside0.mk hc0); clear hr0 hc0; (have HB := Aside0.mk (Below.refl w.heap.size w)); (have H : ((batch_Change_55.f k l0 a1 a2 0).bind fun bt229 => (if bt229.2 = true then (if 0 ≤ bt229.1 then (if bt229.1 < (l0.length : Int) then (some ((rd_T50 l0 bt229.1).f2)) else (none)) else (none)) else (some 0))) = some r := h); clear h; (replace H := Option.bind_eq_some_iff.mp H); obtain ⟨⟨t229, t230⟩, A40, H⟩ := H; (replace H : (if t230 = true then (if 0 ≤ t229 then (if t229 < (l0.length : Int) then (some ((rd_T50 l0 t229).f2)) else (none)) else (none)) else (some 0)) = some r := H); (have A4 := Aside0.mk A40); clear A40; by_cases c5 : t230 = true
 ·subst c5; (have H1 : (if 0 ≤ t229 then (if t229 < (l0.length : Int) then (some ((rd_T50 l0 t229).f2)) else (none)) else (none)) = some r := by rw [if_pos rfl] at H; exact H); clear H; (have H := H1); clear H1; by_cases c6 : 0 ≤ t229
  ·rw [if_pos c6] at H; (have c6b0 : decide (0 ≤ t229) = true := decide_eq_true c6); clear c6; by_cases c7 : t229 < (l0.length : Int)
   ·rw [if_pos c7] at H; (have c7b0 : decide (t229 < (l0.length : Int)) = true := decide_eq_true c7); clear c7; obtain rfl := Option.some.inj H; go_enter Try.func23, Try.ntmps23; (go_wp2_with (first | ((with_reducible refine gate_callee (f := 55) rfl ?_); refine gl (some 14) Try.func55 #[.slice A0 l0.length c0, .agg #[.int .i64 a1, .int .u64 a2, .int .i64 0], .func (.func 53) #[] #[]] ?_; (with_reducible refine (batch_Change_55.calls k _ _ l0 a1 a2 0  t229 true _ ?side1 ?side2 A4.out).mono ?_); (case side1 => exact cn HR0.out); (case side2 => exact HC0.out); rintro e w8 ⟨rfl, hb⟩; refine ⟨_, rfl, ?_⟩; replace HB := bb HB hb; (try clear hb); have p231 : 0 ≤ (t229 : Int) := of_decide_eq_true (by assumption); have q231 : t229 < (l0.length : Int) := of_decide_eq_true (by assumption); obtain ⟨ad231, e231, hx231_0, hx231_1, hx231_2⟩ := at_T50 HR0.out t229 p231 q231; cases e231; replace hx231_0 := ct HB hx231_0; replace hx231_1 := ct HB hx231_1; replace hx231_2 := ct HB hx231_2; replace p231 := eq_true p231; replace q231 := eq_true q231))); go_ret; (exact ⟨by first | rfl | (simp [errW_none, errW_some] <;> rfl) | (simp [*, errW_none, errW_some] <;> rfl), bn HB⟩)
   ·rw [if_neg c7] at H; (exact absurd H (by simp))
  ·rw [if_neg c6] at H; (exact absurd H (by simp))
 ·(replace c5 := Bool.eq_false_iff.mpr c5); subst c5; (have H1 : (some 0) = some r := by rw [if_neg (show ¬ (false = true) by decide)] at H; exact H); clear H; (have H := H1); clear H1; obtain rfl := Option.some.inj H; go_enter Try.func23, Try.ntmps23; (go_wp2_with (first | ((with_reducible refine gate_callee (f := 55) rfl ?_); refine gl (some 14) Try.func55 #[.slice A0 l0.length c0, .agg #[.int .i64 a1, .int .u64 a2, .int .i64 0], .func (.func 53) #[] #[]] ?_; (with_reducible refine (batch_Change_55.calls k _ _ l0 a1 a2 0  t229 false _ ?side1 ?side2 A4.out).mono ?_); (case side1 => exact cn HR0.out); (case side2 => exact HC0.out); rintro e w9 ⟨rfl, hb⟩; refine ⟨_, rfl, ?_⟩; replace HB := bb HB hb; (try clear hb)))); go_ret; (exact ⟨by first | rfl | (simp [errW_none, errW_some] <;> rfl) | (simp [*, errW_none, errW_some] <;> rfl), bn HB⟩)
theorem heap50 : Kd.Heap k50 := Kd.heap_iso _ (Kd.heap_pair (Kd.heap_int .i64) (Kd.heap_pair (Kd.heap_int .u64) (Kd.heap_int .i64)))
def bag_below (k : Nat) (l0 : List S50) (x : S50) : Option Bool := (batch_Of.f k l0 x.f0 x.f1).bind fun t => some (decide (wrap64 (t + x.f2) < 0))
theorem bag_below.mono (l0 : List S50) (x : S50) (k : Nat) : LeO (bag_below k l0 x) (bag_below (k + 1) l0 x) := by
 unfold bag_below
 exact LeO.bind (batch_Of.mono _ _ _ k) (fun _ => LeO.refl _)
theorem below_next {W w1 w' : World} {g : Nat} {u v0 v1 v2 : Value} (hgl : g < W.heap.size) (hS : w1.cell? ⟨g, 0, none⟩ = some u ∧ w1.cell? ⟨W.heap.size, 0, none⟩ = some v0 ∧ w1.cell? ⟨W.heap.size, 1, none⟩ = some v1 ∧ w1.cell? ⟨W.heap.size, 2, none⟩ = some v2 ∧ Below W.heap.size W w1 ∧ W.heap.size < w1.heap.size) (hb : Below w1.heap.size w1 w') :
  w'.cell? ⟨g, 0, none⟩ = some u ∧ w'.cell? ⟨W.heap.size, 0, none⟩ = some v0 ∧ w'.cell? ⟨W.heap.size, 1, none⟩ = some v1 ∧ w'.cell? ⟨W.heap.size, 2, none⟩ = some v2 ∧ Below W.heap.size W w' ∧ W.heap.size < w'.heap.size := by
 obtain ⟨hg, h0, h1, h2, hB, hs⟩ := hS
 exact ⟨(hb.cell (p := ⟨g, 0, none⟩) (Nat.lt_trans hgl hs)).trans hg, (hb.cell (p := ⟨W.heap.size, 0, none⟩) hs).trans h0, (hb.cell (p := ⟨W.heap.size, 1, none⟩) hs).trans h1, (hb.cell (p := ⟨W.heap.size, 2, none⟩) hs).trans h2, below_step hB hb, Nat.lt_of_lt_of_le hs hb.size⟩
theorem below_last {W w1 : World} {g : Nat} {u v0 v1 v2 : Value} (hS : w1.cell? ⟨g, 0, none⟩ = some u ∧ w1.cell? ⟨W.heap.size, 0, none⟩ = some v0 ∧ w1.cell? ⟨W.heap.size, 1, none⟩ = some v1 ∧ w1.cell? ⟨W.heap.size, 2, none⟩ = some v2 ∧ Below W.heap.size W w1 ∧ W.heap.size < w1.heap.size) : Below W.heap.size W w1 := hS.2.2.2.2.1
theorem below_reads {W w1 : World} {g : Nat} {u v0 v1 v2 : Value} {A0 : Option Addr} {n : Nat} {l0 : List S50} (hr : Kd.C k50 W A0 n l0) (hS : w1.cell? ⟨g, 0, none⟩ = some u ∧ w1.cell? ⟨W.heap.size, 0, none⟩ = some v0 ∧ w1.cell? ⟨W.heap.size, 1, none⟩ = some v1 ∧ w1.cell? ⟨W.heap.size, 2, none⟩ = some v2 ∧ Below W.heap.size W w1 ∧ W.heap.size < w1.heap.size) : Kd.C k50 w1 A0 n l0 := Kd.C_below hr hS.2.2.2.2.1
set_option maxHeartbeats 1000000 in
set_option maxRecDepth 100000 in
theorem below_calls (k : Nat) (x : S50) (g : Nat) (A0 : Option Addr) (c0 : Nat) (l0 : List S50) (t : Int) (W : World) (hg : W.cell? ⟨g, 0, none⟩ = some (.slice A0 l0.length c0)) (hr : Kd.C k50 W A0 l0.length l0) (hc : l0.length ≤ c0) (ht : batch_Of.f k l0 x.f0 x.f1 = some t) :
  Calls Try.prog 58 (#[.agg #[.int .i64 x.f0, .int .u64 x.f1, .int .i64 x.f2]] ++ #[.pointer (some ⟨g, 0, none⟩)]) W fun e w' => e = .returned (.bool (decide (wrap64 (t + x.f2) < 0))) ∧ Below W.heap.size W w' := by
 show Calls Try.prog 58 #[.agg #[.int .i64 x.f0, .int .u64 x.f1, .int .i64 x.f2], .pointer (some ⟨g, 0, none⟩)] W _
 have hgl := World.block_lt_of_cell? W _ hg
 have HR := Aside0.mk hr
 have HC := Aside0.mk hc
 have HT := Aside0.mk ht
 have HG := Aside0.mk hg
 have HL := Aside0.mk hgl
 clear hr hc ht hg hgl
 go_enter Try.func58, Try.ntmps58
 go_wp2_with fail
 have s0 : Below W.heap.size W (W.alloc (.cells #[.int .i64 x.f0, .int .u64 x.f1, .int .i64 x.f2] 50)) := (Below.refl _ _).alloc (Nat.le_refl _) _
 have s1 : (W.alloc (.cells #[.int .i64 x.f0, .int .u64 x.f1, .int .i64 x.f2] 50)).cell? ⟨W.heap.size, 0, none⟩ = some (.int .i64 x.f0) := by simp [go_sem]
 have s2 : (W.alloc (.cells #[.int .i64 x.f0, .int .u64 x.f1, .int .i64 x.f2] 50)).cell? ⟨W.heap.size, 1, none⟩ = some (.int .u64 x.f1) := by simp [go_sem]
 have s3 : (W.alloc (.cells #[.int .i64 x.f0, .int .u64 x.f1, .int .i64 x.f2] 50)).cell? ⟨W.heap.size, 2, none⟩ = some (.int .i64 x.f2) := by simp [go_sem]
 have s4 : (W.alloc (.cells #[.int .i64 x.f0, .int .u64 x.f1, .int .i64 x.f2] 50)).cell? ⟨g, 0, none⟩ = some (.slice A0 l0.length c0) := (s0.cell (p := ⟨g, 0, none⟩) HL.out).trans HG.out
 have s5 : W.heap.size < (W.alloc (.cells #[.int .i64 x.f0, .int .u64 x.f1, .int .i64 x.f2] 50)).heap.size := by simp
 generalize W.alloc (.cells #[.int .i64 x.f0, .int .u64 x.f1, .int .i64 x.f2] 50) = W1 at *
 go_region_held3 (fun w' => w'.cell? ⟨g, 0, none⟩ = some (.slice A0 l0.length c0) ∧ w'.cell? ⟨W.heap.size, 0, none⟩ = some (.int .i64 x.f0) ∧ w'.cell? ⟨W.heap.size, 1, none⟩ = some (.int .u64 x.f1) ∧ w'.cell? ⟨W.heap.size, 2, none⟩ = some (.int .i64 x.f2) ∧ Below W.heap.size W w' ∧ W.heap.size < w'.heap.size)
  (first | exact ⟨s4, s1, s2, s3, below_drew s0, s5⟩ | exact hN)
  (first | (go_at_call 23; refine (batch_Of.calls k A0 c0 l0 x.f0 x.f1 t _ ?_ HC.out HT.out).mono ?_; (exact below_reads (g := g) HR.out (by assumption)); rintro e w' ⟨rfl, hb⟩; have hN := below_next HL.out (by assumption) hb; clear hb))
 go_wp2
 go_ret
 exact ⟨by rw [← i64_w]; rfl, below_last (g := g) (by assumption)⟩
def bag_Apply.f (k : Nat) (l0 l1 : List S50) : Option (List S50 × Int) :=
 if l1.all (fun x => (bag_below k l0 x).isSome) = true then (if l1.any (fun x => bag_below k l0 x == some true) = true then some ([], 11) else batch_Merge.f k l0 l1) else none
theorem bag_Apply.mono : ∀ a0 a1 k, LeO (bag_Apply.f k a0 a1) (bag_Apply.f (k + 1) a0 a1) := by
 intro l0 l1 k r h
 unfold bag_Apply.f at h ⊢
 by_cases h1 : l1.all (fun x => (bag_below k l0 x).isSome) = true
 ·rw [if_pos h1] at h
  have hb : ∀ x, x ∈ l1 → bag_below (k + 1) l0 x = bag_below k l0 x := fun x hx => by
   have h2 := List.all_eq_true.1 h1 x hx
   obtain ⟨b, hb⟩ := Option.isSome_iff_exists.1 h2
   rw [hb]; exact bag_below.mono l0 x k b hb
  have h3 : l1.all (fun x => (bag_below (k + 1) l0 x).isSome) = true := List.all_eq_true.2 fun x hx => by rw [hb x hx]; exact List.all_eq_true.1 h1 x hx
  have h4 : l1.any (fun x => bag_below (k + 1) l0 x == some true) = l1.any (fun x => bag_below k l0 x == some true) := by
   rw [Bool.eq_iff_iff, List.any_eq_true, List.any_eq_true]
   exact ⟨fun ⟨x, hx, h⟩ => ⟨x, hx, by rw [hb x hx] at h; exact h⟩, fun ⟨x, hx, h⟩ => ⟨x, hx, by rw [hb x hx]; exact h⟩⟩
  rw [if_pos h3, h4]
  by_cases h5 : l1.any (fun x => bag_below k l0 x == some true) = true
  ·rw [if_pos h5] at h ⊢; exact h
  ·rw [if_neg h5] at h ⊢; exact batch_Merge.mono _ _ _ _ h
 ·rw [if_neg h1] at h; cases h
set_option maxHeartbeats 1000000 in
set_option maxRecDepth 100000 in
theorem bag_Apply.calls (k : Nat) (A0 : Option Addr) (c0 : Nat) (l0 : List S50) (A1 : Option Addr) (c1 : Nat) (l1 : List S50) (r1 : List S50) (r2 : Int) (w : World) (hr0 : Kd.C k50 w A0 l0.length l0) (hc0 : l0.length ≤ c0) (hr1 : Kd.C k50 w A1 l1.length l1) (hc1 : l1.length ≤ c1) (h : bag_Apply.f k l0 l1 = some (r1, r2)) :
  Calls Try.prog 27 #[.slice A0 l0.length c0, .slice A1 l1.length c1] w fun e w' => ∃ v0_ : Value, e = .returned (.tuple #[v0_, .int .i64 r2]) ∧ Kd.R k50 50 w' w.heap.size (fun _ => True) v0_ r1 ∧ Below w.heap.size w w' := by
 unfold bag_Apply.f at h
 by_cases hall : l1.all (fun x => (bag_below k l0 x).isSome) = true
 ·rw [if_pos hall] at h
  have hs : ∀ x, x ∈ l1 → ∃ t, batch_Of.f k l0 x.f0 x.f1 = some t ∧ (bag_below k l0 x == some true) = decide (wrap64 (t + x.f2) < 0) := fun x hx => by
   have h2 := List.all_eq_true.1 hall x hx
   unfold bag_below at h2 ⊢
   cases ht : batch_Of.f k l0 x.f0 x.f1 with
   | none => rw [ht] at h2; simp at h2
   | some t => exact ⟨t, rfl, by simp⟩
  clear hall
  have hB0 : Below w.heap.size w (w.alloc (.cells #[.slice A0 l0.length c0] 25)) := (Below.refl _ _).alloc (Nat.le_refl _) _
  have hg0 : (w.alloc (.cells #[.slice A0 l0.length c0] 25)).cell? ⟨w.heap.size, 0, none⟩ = some (.slice A0 l0.length c0) := by simp [go_sem]
  have hlt0 : w.heap.size < (w.alloc (.cells #[.slice A0 l0.length c0] 25)).heap.size := by simp
  have hcf := containsFunc_calls 58 #[.pointer (some ⟨w.heap.size, 0, none⟩)] (fun x => bag_below k l0 x == some true) (fun args w => enters_ Try.func58 (by kernel_rfl) rfl args w) A1 c1 l1 (w.alloc (.cells #[.slice A0 l0.length c0] 25)) (Kd.C_below hr1 hB0)
   (fun W hW x hx => by
    obtain ⟨t, ht, hd⟩ := hs x hx
    refine (below_calls k x w.heap.size A0 c0 l0 t W ((hW.cell (p := ⟨w.heap.size, 0, none⟩) hlt0).trans hg0) (Kd.C_below (Kd.C_below hr0 hB0) hW) hc0 ht).mono ?_
    rintro e w' ⟨he, hb⟩
    exact ⟨by rw [he, hd], hb⟩)
  generalize hany : l1.any (fun x => bag_below k l0 x == some true) = q at h hcf
  have HCF := Aside0.mk hcf
  have HR0 := Aside0.mk hr0
  have HR1 := Aside0.mk hr1
  have HC0 := Aside0.mk hc0
  have HC1 := Aside0.mk hc1
  have HB0 := Aside0.mk hB0
  have HG0 := Aside0.mk hg0
  have HLT0 := Aside0.mk hlt0
  clear hcf hr0 hr1 hc0 hc1 hB0 hg0 hlt0 hany hs
  cases q with
  | true =>
   rw [if_pos rfl] at h
   obtain ⟨rfl, rfl⟩ := Prod.mk.inj (Option.some.inj h)
   clear h
   go_enter Try.func27, Try.ntmps27
   go_wp2_with (first | (go_at_call 59; refine HCF.out.mono ?_; rintro e w3 ⟨rfl, hb⟩; have HB3 := Aside0.mk (below_step HB0.out hb); clear hb))
   go_ret2
   exact ⟨_, rfl, Kd.R_nil _ _ _ _ _, HB3.out⟩
  | false =>
   rw [if_neg (by decide)] at h
   have HM := Aside0.mk h
   clear h
   go_enter Try.func27, Try.ntmps27
   go_wp2_with (first | (go_at_call 59; refine HCF.out.mono ?_; rintro e w3 ⟨rfl, hb⟩; have HB3 := Aside0.mk (below_step HB0.out hb); have hg3 := (hb.cell (p := ⟨w.heap.size, 0, none⟩) HLT0.out).trans HG0.out; clear hb) | (go_at_call 25; refine (batch_Merge.calls k (fun k_ => k_ < w.heap.size) A0 c0 l0 (fun k_ => k_ < w.heap.size) A1 c1 l1 r1 r2 _ ?s0 ?s1 HM.out).mono ?_; (case s0 => exact Kd.V_mk HC0.out (Kd.F_below (Kd.C_F heap50 HR0.out) HB3.out)); (case s1 => exact Kd.V_mk HC1.out (Kd.F_below (Kd.C_F heap50 HR1.out) HB3.out)); rintro e w4 ⟨v4, rfl, ho, hb⟩; have HB4 := Aside0.mk (below_step HB3.out hb); have HO4 := Aside0.mk (Kd.R_lower (Kd.R_mono ho (fun _ _ => trivial)) HB3.out.size); clear ho hb))
   go_ret2
   exact ⟨_, rfl, HO4.out, HB4.out⟩
 ·rw [if_neg hall] at h
  cases h
/-! ### batch_wrong: function 48 -/
def batch_wrong.j0 : Nat → Bool → Int → Int → Int → Option (Int)
 | 0, _, _, _, _ => none
 | k + 1, x3, x108000, x108001, x108002 => if x3 = true then (some 2) else (if x108001 = 18446744073709551615 then (some 1) else ((batch_within.f x108002).bind fun t108 => (if t108 = true then (some 0) else (some 10))))
def batch_wrong.f (k : Nat) (a0_0 : Int) (a0_1 : Int) (a0_2 : Int) : Option (Int) := if a0_0 < 0 then (batch_wrong.j0 k true a0_0 a0_1 a0_2) else (batch_wrong.j0 k (decide (a0_0 ≥ 64)) a0_0 a0_1 a0_2)
set_option maxHeartbeats 8000000 in
set_option maxRecDepth 100000 in
theorem batch_wrong.calls (k : Nat) (a0_0 : Int) (a0_1 : Int) (a0_2 : Int) (r : Int) (w : World) (h : batch_wrong.f k a0_0 a0_1 a0_2 = some r) :
  Calls Try.prog 48 #[.agg #[.int .i64 a0_0, .int .u64 a0_1, .int .i64 a0_2]] w fun e w' => e = .returned (.int .i64 r) ∧ Below w.heap.size w w' := by
 (have hu50 := Try.underlying50); (have HB := Aside0.mk (Below.refl w.heap.size w)); (have H : (if a0_0 < 0 then (batch_wrong.j0 k true a0_0 a0_1 a0_2) else (batch_wrong.j0 k (decide (a0_0 ≥ 64)) a0_0 a0_1 a0_2)) = some r := h); clear h; (have HC2 := Aside0.mk H); clear H; go_enter Try.func48, Try.ntmps48; (go_upto_region 1 with (first | ((with_reducible refine gate_dst (N := 1) rfl ?_); refine box_event ?hg (N := 1) ?hd (cs := #[.int .i64 a0_0, .int .u64 a0_1, .int .i64 a0_2]) (t := 50) ?hr ?_; (case hd => rfl); (case hg => rfl); (case hr => first | (go_simp; done) | (go_simp; rfl)); intro gb107 hg w3 hbox hb; have n1_ := Aside0.mk (hbox); have n2_ := Aside0.mk (gsz hg (bn HB)); have n3_ := Aside0.mk (gsz hg (bn HB)); replace HB := bb HB hb; have BK107 := n1_; have GW107 := n2_; have GE107 := n3_; clear n1_ n2_ n3_; clear hb hbox hg))); (try simp only [Act.put, List.setIfInBounds_toArray, List.set_cons_zero, List.set_cons_succ]); (go_cut [3] (fun v3 wc => ∃ (kq : Nat) (x3_1 : Bool), v3 = .bool x3_1 ∧ Aside0 (batch_wrong.j0 kq x3_1 a0_0 a0_1 a0_2 = some r) ∧ Aside0 (kq ≤ k) ∧ Aside0 (wc.heap[gb107]? = some (.cells #[.int .i64 a0_0, .int .u64 a0_1, .int .i64 a0_2] 50 (0, 0))) ∧ Aside0 (Below w.heap.size w wc)))
 case first =>
  (have H := HC2.out); clear HC2; by_cases c4 : a0_0 < 0
  ·rw [if_pos c4] at H; (have c4b0 : decide (a0_0 < 0) = true := decide_eq_true c4); clear c4; (first | rw [c4b0] | (simp only [i64_w, i32_w]; rw [c4b0]) | skip); (have H' := Aside0.mk H); clear H; (have hcz5_0 : w3.cell? ⟨gb107, 0, none⟩ = some (.int .i64 a0_0) := (blk_cell BK107.out 0).trans rfl); (have hcz5_1 : w3.cell? ⟨gb107, 1, none⟩ = some (.int .u64 a0_1) := (blk_cell BK107.out 1).trans rfl); (have hcz5_2 : w3.cell? ⟨gb107, 2, none⟩ = some (.int .i64 a0_2) := (blk_cell BK107.out 2).trans rfl); (have hfz5_0 := blk_frozen BK107.out 0); (have hfz5_1 := blk_frozen BK107.out 1); (have hfz5_2 := blk_frozen BK107.out 2); go_wp2; go_meet
   case rel => exact ⟨_, (true), qr_, H', ⟨by first | omega | exact Nat.le_refl _⟩, ⟨bk BK107⟩, ⟨bn1 HB GE107⟩⟩
  ·rw [if_neg c4] at H; (have c4b0 : decide (a0_0 < 0) = false := decide_eq_false c4); clear c4; (first | rw [c4b0] | (simp only [i64_w, i32_w]; rw [c4b0]) | skip); (have H' := Aside0.mk H); clear H; (have hcz6_0 : w3.cell? ⟨gb107, 0, none⟩ = some (.int .i64 a0_0) := (blk_cell BK107.out 0).trans rfl); (have hcz6_1 : w3.cell? ⟨gb107, 1, none⟩ = some (.int .u64 a0_1) := (blk_cell BK107.out 1).trans rfl); (have hcz6_2 : w3.cell? ⟨gb107, 2, none⟩ = some (.int .i64 a0_2) := (blk_cell BK107.out 2).trans rfl); (have hfz6_0 := blk_frozen BK107.out 0); (have hfz6_1 := blk_frozen BK107.out 1); (have hfz6_2 := blk_frozen BK107.out 2); go_wp2; go_meet
   case rel => exact ⟨_, (decide (a0_0 ≥ 64)), qr_, H', ⟨by first | omega | exact Nat.le_refl _⟩, ⟨bk BK107⟩, ⟨bn1 HB GE107⟩⟩
 case rest =>
  clear HC2; obtain ⟨kq, x3_1, rfl, HA, HJ1, BK107, HB⟩ := hcut
  cases kq with
  | zero => exact absurd HA.out (by simp [batch_wrong.j0])
  | succ kj1 =>
   (have H := HA.out); clear HA; simp only [batch_wrong.j0] at H; by_cases c7 : x3_1 = true
   ·subst c7; (have H1 : (some 2) = some r := by rw [if_pos rfl] at H; exact H); clear H; (have H := H1); clear H1; obtain rfl := Option.some.inj H; go_wp2; go_ret; (exact ⟨by first | rfl | (simp [errW_none, errW_some] <;> rfl) | (simp [*, errW_none, errW_some] <;> rfl), bn1 HB GE107⟩)
   ·(replace c7 := Bool.eq_false_iff.mpr c7); subst c7; (have H1 : (if a0_1 = 18446744073709551615 then (some 1) else ((batch_within.f a0_2).bind fun t108 => (if t108 = true then (some 0) else (some 10)))) = some r := by rw [if_neg (show ¬ (false = true) by decide)] at H; exact H); clear H; (have H := H1); clear H1; by_cases c8 : a0_1 = 18446744073709551615
    ·rw [if_pos c8] at H; (have c8b0 : (a0_1 == 18446744073709551615) = true := beq_iff_eq.mpr c8); (have c8b1 : (a0_1 != 18446744073709551615) = false := bne_eq_false_iff_eq.mpr c8); clear c8; obtain rfl := Option.some.inj H; (have hcz9_0 : wc.cell? ⟨gb107, 0, none⟩ = some (.int .i64 a0_0) := (blk_cell BK107.out 0).trans rfl); (have hcz9_1 : wc.cell? ⟨gb107, 1, none⟩ = some (.int .u64 a0_1) := (blk_cell BK107.out 1).trans rfl); (have hcz9_2 : wc.cell? ⟨gb107, 2, none⟩ = some (.int .i64 a0_2) := (blk_cell BK107.out 2).trans rfl); (have hfz9_0 := blk_frozen BK107.out 0); (have hfz9_1 := blk_frozen BK107.out 1); (have hfz9_2 := blk_frozen BK107.out 2); go_wp2; go_ret; (exact ⟨by first | rfl | (simp [errW_none, errW_some] <;> rfl) | (simp [*, errW_none, errW_some] <;> rfl), bn1 HB GE107⟩)
    ·rw [if_neg c8] at H; (have c8b0 : (a0_1 == 18446744073709551615) = false := beq_eq_false_iff_ne.mpr c8); (have c8b1 : (a0_1 != 18446744073709551615) = true := bne_iff_ne.mpr c8); (replace H := Option.bind_eq_some_iff.mp H); obtain ⟨t108, A100, H⟩ := H; (replace H : (if t108 = true then (some 0) else (some 10)) = some r := H); (have A10 := Aside0.mk A100); clear A100; by_cases c11 : t108 = true
     ·subst c11; (have H1 : (some 0) = some r := by rw [if_pos rfl] at H; exact H); clear H; (have H := H1); clear H1; obtain rfl := Option.some.inj H; (have hcz12_0 : wc.cell? ⟨gb107, 0, none⟩ = some (.int .i64 a0_0) := (blk_cell BK107.out 0).trans rfl); (have hcz12_1 : wc.cell? ⟨gb107, 1, none⟩ = some (.int .u64 a0_1) := (blk_cell BK107.out 1).trans rfl); (have hcz12_2 : wc.cell? ⟨gb107, 2, none⟩ = some (.int .i64 a0_2) := (blk_cell BK107.out 2).trans rfl); (have hfz12_0 := blk_frozen BK107.out 0); (have hfz12_1 := blk_frozen BK107.out 1); (have hfz12_2 := blk_frozen BK107.out 2); (go_wp2_with (first | ((with_reducible refine gate_callee (f := 73) rfl ?_); refine gl (some 19) Try.func73 #[.int .i64 a0_2] ?_; (with_reducible refine (batch_within.calls a0_2 true _ A10.out).mono ?_); rintro e w' ⟨rfl, ⟨nd, rfl⟩⟩; refine ⟨_, rfl, ?_⟩))); go_ret; (exact ⟨by first | rfl | (simp [errW_none, errW_some] <;> rfl) | (simp [*, errW_none, errW_some] <;> rfl), bn1 HB GE107⟩)
     ·(replace c11 := Bool.eq_false_iff.mpr c11); subst c11; (have H1 : (some 10) = some r := by rw [if_neg (show ¬ (false = true) by decide)] at H; exact H); clear H; (have H := H1); clear H1; obtain rfl := Option.some.inj H; (have hcz13_0 : wc.cell? ⟨gb107, 0, none⟩ = some (.int .i64 a0_0) := (blk_cell BK107.out 0).trans rfl); (have hcz13_1 : wc.cell? ⟨gb107, 1, none⟩ = some (.int .u64 a0_1) := (blk_cell BK107.out 1).trans rfl); (have hcz13_2 : wc.cell? ⟨gb107, 2, none⟩ = some (.int .i64 a0_2) := (blk_cell BK107.out 2).trans rfl); (have hfz13_0 := blk_frozen BK107.out 0); (have hfz13_1 := blk_frozen BK107.out 1); (have hfz13_2 := blk_frozen BK107.out 2); (go_wp2_with (first | ((with_reducible refine gate_callee (f := 73) rfl ?_); refine gl (some 19) Try.func73 #[.int .i64 a0_2] ?_; (with_reducible refine (batch_within.calls a0_2 false _ A10.out).mono ?_); rintro e w' ⟨rfl, ⟨nd, rfl⟩⟩; refine ⟨_, rfl, ?_⟩))); go_ret; (exact ⟨by first | rfl | (simp [errW_none, errW_some] <;> rfl) | (simp [*, errW_none, errW_some] <;> rfl), bn1 HB GE107⟩)
/-! ### batch_Right: function 20 -/
def batch_Right.l0 : Nat → List (S50) → List (S50) → Int → Int → Option (Bool)
 | 0, _, _, _, _ => none
 | k + 1, x0, x5, x6, x7 => if x7 < x6 then (if 0 ≤ x7 then (if x7 < (x5.length : Int) then ((batch_wrong.f k ((rd_T50 x5 x7).f0) ((rd_T50 x5 x7).f1) ((rd_T50 x5 x7).f2)).bind fun t221 => (if t221 = 0 then (if ((rd_T50 x5 x7).f2) = 0 then (some false) else (if x7 > 0 then (if 0 ≤ (wrap64 (x7 - 1)) then (if (wrap64 (x7 - 1)) < (x0.length : Int) then ((batch_order.f k ((rd_T50 x0 (wrap64 (x7 - 1))).f0) ((rd_T50 x0 (wrap64 (x7 - 1))).f1) ((rd_T50 x0 (wrap64 (x7 - 1))).f2) ((rd_T50 x5 x7).f0) ((rd_T50 x5 x7).f1) ((rd_T50 x5 x7).f2)).bind fun t223 => (if t223 ≥ 0 then (some false) else (batch_Right.l0 k x0 x5 x6 (wrap64 (x7 + 1))))) else (none)) else (none)) else (batch_Right.l0 k x0 x5 x6 (wrap64 (x7 + 1))))) else (some false))) else (none)) else (none)) else (some true)
def batch_Right.f (k : Nat) (l0 : List (S50)) : Option (Bool) := batch_Right.l0 k l0 l0 (l0.length : Int) 0
def batch_Right.T4 : Bool × List (List Nat × List Nat) := (true, [([], []), ([0], [0]), ([1], [1]), ([2, 1], [2]), ([3], [3]), ([4, 3], [3, 4]), ([5, 3], [3, 5]), ([3, 6], [3, 6]), ([7, 3], [7]), ([8], [8]), ([9, 8], [8, 9]), ([10, 8, 8], [8, 10]), ([11], [11]), ([11], [11]), ([13, 11], [11, 13]), ([12, 14, 11], [11, 12, 14]), ([15, 11], [11, 15]), ([11], [11]), ([16, 17, 11, 11], [11, 16, 17]), ([18, 11], [11, 18]), ([11, 19, 8], [8, 11, 19]), ([8, 20], [8, 20])])
def batch_Right.B4 : List Nat := [0, 1, 3, 7, 15, 31, 63, 127, 255, 511, 1023, 2047, 4095, 4095, 12287, 32767, 65535, 4095, 262143, 524287, 1048575, 2097151]
theorem batch_Right.tab4 : rtab .any (opsOf Try.f20 4) = batch_Right.T4 := by kernel_rfl
theorem batch_Right.bits4 : waitsOk batch_Right.T4.2 batch_Right.B4 = true := by kernel_rfl
set_option maxHeartbeats 8000000 in
set_option maxRecDepth 100000 in
theorem batch_Right.calls (k : Nat) (A0 : Option Addr) (c0 : Nat) (l0 : List (S50)) (r : Bool) (w : World) (hr0 : Kd.C k50 w A0 l0.length l0) (hc0 : l0.length ≤ c0) (h : batch_Right.f k l0 = some r) (hT : r = true := by rfl) :
  Calls Try.prog 20 #[.slice A0 l0.length c0] w fun e w' => e = .returned (.bool r) ∧ Below w.heap.size w w' := by
 (have hu50 := Try.underlying50); (have HR0 := Aside0.mk hr0); (have HC0 := Aside0.mk hc0); clear hr0 hc0; (have HB := Aside0.mk (Below.refl w.heap.size w)); (have H : (batch_Right.l0 k l0 l0 (l0.length : Int) 0) = some r := h); clear h; (have H' := Aside0.mk H); clear H; go_enter Try.func20, Try.ntmps20; go_wp2; (go_loopg [7] k (fun kq v7 w' => ∃ (x7_1 : Int), v7 = .int .i64 x7_1 ∧ Aside0 (batch_Right.l0 kq l0 l0 (l0.length : Int) x7_1 = some r) ∧ Aside0 (kq ≤ k) ∧ Aside0 (Below w.heap.size w w')))
 case atStart => exact ⟨(0), qr_, H', ⟨Nat.le_refl _⟩, ⟨bn HB⟩⟩
 case round =>
  clear H'; obtain ⟨x7_1, rfl, HA, HK1, HB⟩ := hrel
  cases gk with
  | zero => exact absurd HA.out (by simp [batch_Right.l0])
  | succ k1 =>
   (have H := HA.out); clear HA; simp only [batch_Right.l0] at H; by_cases c2 : x7_1 < (l0.length : Int)
   ·rw [if_pos c2] at H; (have c2b0 : decide (x7_1 < (l0.length : Int)) = true := decide_eq_true c2); clear c2; by_cases c3 : 0 ≤ x7_1
    ·rw [if_pos c3] at H; (have c3b0 : decide (0 ≤ x7_1) = true := decide_eq_true c3); clear c3; by_cases c4 : x7_1 < (l0.length : Int)
     ·rw [if_pos c4] at H; (have c4b0 : decide (x7_1 < (l0.length : Int)) = true := decide_eq_true c4); clear c4; (replace H := Option.bind_eq_some_iff.mp H); obtain ⟨t221, A50, H⟩ := H; (replace H : (if t221 = 0 then (if ((rd_T50 l0 x7_1).f2) = 0 then (some false) else (if x7_1 > 0 then (if 0 ≤ (wrap64 (x7_1 - 1)) then (if (wrap64 (x7_1 - 1)) < (l0.length : Int) then ((batch_order.f k1 ((rd_T50 l0 (wrap64 (x7_1 - 1))).f0) ((rd_T50 l0 (wrap64 (x7_1 - 1))).f1) ((rd_T50 l0 (wrap64 (x7_1 - 1))).f2) ((rd_T50 l0 x7_1).f0) ((rd_T50 l0 x7_1).f1) ((rd_T50 l0 x7_1).f2)).bind fun t223 => (if t223 ≥ 0 then (some false) else (batch_Right.l0 k1 l0 l0 (l0.length : Int) (wrap64 (x7_1 + 1))))) else (none)) else (none)) else (batch_Right.l0 k1 l0 l0 (l0.length : Int) (wrap64 (x7_1 + 1))))) else (some false)) = some r := H); (have A5 := Aside0.mk A50); clear A50; by_cases c6 : t221 = 0
      ·rw [if_pos c6] at H; (have c6b0 : (t221 == 0) = true := beq_iff_eq.mpr c6); (have c6b1 : (t221 != 0) = false := bne_eq_false_iff_eq.mpr c6); clear c6; by_cases c7 : ((rd_T50 l0 x7_1).f2) = 0
       ·rw [if_pos c7] at H; (have c7b0 : (((rd_T50 l0 x7_1).f2) == 0) = true := beq_iff_eq.mpr c7); (have c7b1 : (((rd_T50 l0 x7_1).f2) != 0) = false := bne_eq_false_iff_eq.mpr c7); clear c7; (subst hT; cases H)
       ·rw [if_neg c7] at H; (have c7b0 : (((rd_T50 l0 x7_1).f2) == 0) = false := beq_eq_false_iff_ne.mpr c7); (have c7b1 : (((rd_T50 l0 x7_1).f2) != 0) = true := bne_iff_ne.mpr c7); by_cases c13 : x7_1 > 0
        ·rw [if_pos c13] at H; (have c13b0 : decide (0 < x7_1) = true := decide_eq_true c13); clear c13; obtain ⟨ji14, hji14⟩ : ∃ j_ : Int, (wrap64 (x7_1 - 1)) = j_ := ⟨_, rfl⟩; (replace H : (if 0 ≤ (ji14) then (if (ji14) < (l0.length : Int) then ((batch_order.f k1 ((rd_T50 l0 (ji14)).f0) ((rd_T50 l0 (ji14)).f1) ((rd_T50 l0 (ji14)).f2) ((rd_T50 l0 x7_1).f0) ((rd_T50 l0 x7_1).f1) ((rd_T50 l0 x7_1).f2)).bind fun t223 => (if t223 ≥ 0 then (some false) else (batch_Right.l0 k1 l0 l0 (l0.length : Int) (wrap64 (x7_1 + 1))))) else (none)) else (none)) = some r := by first | (rw [hji14] at H; exact H) | (simp only [hji14] at H ⊢; exact H)); (try rw [hji14] at A5); (have hji14w : (IntKind.i64.wrap (x7_1 - 1)) = ji14 := (i64_w _).trans hji14); by_cases c15 : 0 ≤ (ji14)
         ·rw [if_pos c15] at H; (have c15b0 : decide (0 ≤ (ji14)) = true := decide_eq_true c15); clear c15; by_cases c16 : (ji14) < (l0.length : Int)
          ·rw [if_pos c16] at H; (have c16b0 : decide ((ji14) < (l0.length : Int)) = true := decide_eq_true c16); clear c16; (replace H := Option.bind_eq_some_iff.mp H); obtain ⟨t223, A170, H⟩ := H; (replace H : (if t223 ≥ 0 then (some false) else (batch_Right.l0 k1 l0 l0 (l0.length : Int) (wrap64 (x7_1 + 1)))) = some r := H); (have A17 := Aside0.mk A170); clear A170; by_cases c18 : t223 ≥ 0
           ·rw [if_pos c18] at H; (have c18b0 : decide (0 ≤ t223) = true := decide_eq_true c18); clear c18; (subst hT; cases H)
           ·rw [if_neg c18] at H; (have c18b0 : decide (0 ≤ t223) = false := decide_eq_false c18); clear c18; (have H' := Aside0.mk H); clear H; (have p219 : 0 ≤ (x7_1 : Int) := of_decide_eq_true (by assumption)); (have q219 : x7_1 < (l0.length : Int) := of_decide_eq_true (by assumption)); obtain ⟨ad219, e219, hx219_0, hx219_1, hx219_2⟩ := at_T50 HR0.out x7_1 p219 q219; cases e219; (replace hx219_0 := ct HB hx219_0); (replace hx219_1 := ct HB hx219_1); (replace hx219_2 := ct HB hx219_2); (replace p219 := eq_true p219); (replace q219 := eq_true q219); (try go_wp2_with (first | ((with_reducible refine gate_dst (N := 4) rfl ?_); refine box_event ?hg (N := 4) ?hd (cs := #[.int .i64 0, .int .u64 0, .int .i64 0]) (t := 50) ?hr ?_; (case hd => rfl); (case hg => rfl); (case hr => first | (go_simp; done) | (go_simp; rfl)); intro gb220 hg w25 hbox hb; have n1_ := Aside0.mk (hbox); have n2_ := Aside0.mk (gsz hg (bn HB)); have n3_ := Aside0.mk (gsz hg (bn HB)); replace HB := bb HB hb; have BK220 := n1_; have GW220 := n2_; have GE220 := n3_; clear n1_ n2_ n3_; clear hb hbox hg; have hcz26_0 : w25.cell? ⟨gb220, 0, none⟩ = some (.int .i64 0) := (blk_cell BK220.out 0).trans rfl; have hcz26_1 : w25.cell? ⟨gb220, 1, none⟩ = some (.int .u64 0) := (blk_cell BK220.out 1).trans rfl; have hcz26_2 : w25.cell? ⟨gb220, 2, none⟩ = some (.int .i64 0) := (blk_cell BK220.out 2).trans rfl; have hfz26_0 := blk_frozen BK220.out 0; have hfz26_1 := blk_frozen BK220.out 1; have hfz26_2 := blk_frozen BK220.out 2))); (have n0_ : Aside0 ((((w25.setCell ⟨gb220, 0, none⟩ (.int .i64 ((rd_T50 l0 x7_1).f0))).setCell ⟨gb220, 1, none⟩ (.int .u64 ((rd_T50 l0 x7_1).f1))).setCell ⟨gb220, 2, none⟩ (.int .i64 ((rd_T50 l0 x7_1).f2))).heap[gb220]? = some (.cells #[.int .i64 ((rd_T50 l0 x7_1).f0), .int .u64 ((rd_T50 l0 x7_1).f1), .int .i64 ((rd_T50 l0 x7_1).f2)] 50 (0, 0))) := ⟨by (with_reducible repeat (first | refine blk_drewN ?_ _ | refine blk_drew ?_ | refine blk_alloc ?_ _)); refine blk_put (cs := #[.int .i64 ((rd_T50 l0 x7_1).f0), .int .u64 ((rd_T50 l0 x7_1).f1), .int .i64 0]) ?_ 2 _ rfl; (with_reducible repeat (first | refine blk_drewN ?_ _ | refine blk_drew ?_ | refine blk_alloc ?_ _)); refine blk_put (cs := #[.int .i64 ((rd_T50 l0 x7_1).f0), .int .u64 0, .int .i64 0]) ?_ 1 _ rfl; (with_reducible repeat (first | refine blk_drewN ?_ _ | refine blk_drew ?_ | refine blk_alloc ?_ _)); refine blk_put (cs := #[.int .i64 0, .int .u64 0, .int .i64 0]) ?_ 0 _ rfl; (with_reducible repeat (first | refine blk_drewN ?_ _ | refine blk_drew ?_ | refine blk_alloc ?_ _)); exact BK220.out⟩); (have n1_ : Aside0 (Below w.heap.size w (((w25.setCell ⟨gb220, 0, none⟩ (.int .i64 ((rd_T50 l0 x7_1).f0))).setCell ⟨gb220, 1, none⟩ (.int .u64 ((rd_T50 l0 x7_1).f1))).setCell ⟨gb220, 2, none⟩ (.int .i64 ((rd_T50 l0 x7_1).f2)))) := ⟨bn1 HB GE220⟩); generalize (((w25.setCell ⟨gb220, 0, none⟩ (.int .i64 ((rd_T50 l0 x7_1).f0))).setCell ⟨gb220, 1, none⟩ (.int .u64 ((rd_T50 l0 x7_1).f1))).setCell ⟨gb220, 2, none⟩ (.int .i64 ((rd_T50 l0 x7_1).f2))) = w27 at n0_ n1_ ⊢
            (have BK220 := n0_); (have HB := n1_); clear n0_ n1_; (have n0_ := Aside0.mk (blk_drew BK220.out)); (have n1_ := Aside0.mk (below_drew1 HB.out)); clear BK220; clear HB; (have BK220 := n0_); (have HB := n1_); clear n0_ n1_; (have p222 : 0 ≤ ((ji14) : Int) := of_decide_eq_true (by assumption)); (have q222 : (ji14) < (l0.length : Int) := of_decide_eq_true (by assumption)); obtain ⟨ad222, e222, hx222_0, hx222_1, hx222_2⟩ := at_T50 HR0.out (ji14) p222 q222; (have hw222_2 := hx222_2); (have hw222_1 := hx222_1); (have hw222_0 := hx222_0); obtain rfl : ad219 = ad222 := (by injection e222); (replace hx222_0 := ct HB hx222_0); (replace hx222_1 := ct HB hx222_1); (replace hx222_2 := ct HB hx222_2); (replace p222 := eq_true p222); (replace q222 := eq_true q222); (refine start_ (n := 22) (S := fun w' => w'.cell? ⟨gb220, 0, none⟩ = some (.int .i64 ((rd_T50 l0 x7_1).f0)) ∧ w'.cell? ⟨gb220, 1, none⟩ = some (.int .u64 ((rd_T50 l0 x7_1).f1)) ∧ w'.cell? ⟨gb220, 2, none⟩ = some (.int .i64 ((rd_T50 l0 x7_1).f2)) ∧ w'.cell? (ad219.add (((ji14)).toNat * 3)) = some (.int .i64 ((rd_T50 l0 (ji14)).f0)) ∧ w'.cell? ⟨(ad219.add (((ji14)).toNat * 3)).block, (ad219.add (((ji14)).toNat * 3)).off + 1, none⟩ = some (.int .u64 ((rd_T50 l0 (ji14)).f1)) ∧ w'.cell? ⟨(ad219.add (((ji14)).toNat * 3)).block, (ad219.add (((ji14)).toNat * 3)).off + 2, none⟩ = some (.int .i64 ((rd_T50 l0 (ji14)).f2))) (ds := []) (mk_ 0 22) (by kernel_rfl) rfl rfl ⟨(blk_cell BK220.out 0).trans rfl, (blk_cell BK220.out 1).trans rfl, (blk_cell BK220.out 2).trans rfl, (ct HB hw222_0), (ct HB hw222_1), (ct HB hw222_2)⟩ (fun hHeld => ?_); refine with_tabW batch_Right.tab4 batch_Right.bits4 (fun HT_ HW_ => ?_)); generalize w27.drew = w28 at BK220 HB hx222_0 hx222_1 hx222_2 hHeld ⊢; (refine tv_ 0 12 (mk_ 1 21) HT_ HW_ hHeld (hy := by rintro w' ⟨s0, s1, s2, s3, s4, s5⟩; go_simp; with_reducible rfl) (h := ?_)); (refine one_ (i := 1) (N := some 13) (mk_ 2 20) rfl rfl (one_of HT_.out (by kernel_rfl)) (by decide) (fun K hK => ?_)); refine goes_ Try.func48 (by kernel_rfl) rfl #[.agg #[.int .i64 ((rd_T50 l0 x7_1).f0), .int .u64 ((rd_T50 l0 x7_1).f1), .int .i64 ((rd_T50 l0 x7_1).f2)]] (by rfl) rfl rfl am_ ?_; (with_reducible refine (batch_wrong.calls k1 ((rd_T50 l0 x7_1).f0) ((rd_T50 l0 x7_1).f1) ((rd_T50 l0 x7_1).f2) t221 _ A5.out).mono ?_); rintro e w29 ⟨rfl, hb⟩; refine ⟨_, rfl, ?_⟩; (have n0_ := Aside0.mk (bkb BK220 hb)); (have n1_ := Aside0.mk (below_step (bn1 HB GE220) hb)); clear BK220; clear HB; (have BK220 := n0_); (have HB := n1_); clear n0_ n1_; (refine hK.out _ _ ⟨(blk_cell BK220.out 0).trans rfl, (blk_cell BK220.out 1).trans rfl, (blk_cell BK220.out 2).trans rfl, (ct HB hw222_0), (ct HB hw222_1), (ct HB hw222_2)⟩ (fun hHeld => ?_)); clear hK K; refine norm_ (a' := ?_) ?_ ?_; rotate_left
            ·(show Act.put _ (some 13) _ = _); simp only [Act.put, List.setIfInBounds_toArray, List.set_cons_zero, List.set_cons_succ, i64_w, i32_w]; rfl
            refine pv_ 2 14 (mk_ 3 19) HT_ ?_; refine pv_ 3 15 (mk_ 4 18) HT_ ?_; refine pv_ 4 16 (mk_ 5 17) HT_ ?_; (refine tv_ 5 17 (mk_ 6 16) HT_ HW_ hHeld (hy := by rintro w' ⟨s0, s1, s2, s3, s4, s5⟩; go_simp; with_reducible rfl) (h := ?_)); refine pv_ 6 18 (mk_ 7 15) HT_ ?_; refine pv_ 7 19 (mk_ 8 14) HT_ ?_; refine pv_ 8 20 (mk_ 9 13) HT_ ?_; refine pv_ 9 21 (mk_ 10 12) HT_ ?_; refine pv_ 10 22 (mk_ 11 11) HT_ ?_; refine pv_ 11 23 (mk_ 12 10) HT_ ?_; refine pv_ 12 24 (mk_ 13 9) HT_ ?_; refine pv_ 13 25 (mk_ 14 8) HT_ ?_; refine pv_ 14 26 (mk_ 15 7) HT_ ?_; refine pv_ 15 27 (mk_ 16 6) HT_ ?_; (refine tv_ 16 28 (mk_ 17 5) HT_ HW_ hHeld (hy := by rintro w' ⟨s0, s1, s2, s3, s4, s5⟩; go_simp; with_reducible rfl) (h := ?_)); (refine tv_ 17 29 (mk_ 18 4) HT_ HW_ hHeld (hy := by rintro w' ⟨s0, s1, s2, s3, s4, s5⟩; go_simp; with_reducible rfl) (h := ?_)); (refine one_ (i := 18) (N := some 30) (mk_ 19 3) rfl rfl (one_of HT_.out (by kernel_rfl)) (by decide) (fun K hK => ?_)); (refine goes_ Try.func53 (by kernel_rfl) rfl #[.agg #[.int .i64 ((rd_T50 l0 (ji14)).f0), .int .u64 ((rd_T50 l0 (ji14)).f1), .int .i64 ((rd_T50 l0 (ji14)).f2)], .agg #[.int .i64 ((rd_T50 l0 x7_1).f0), .int .u64 ((rd_T50 l0 x7_1).f1), .int .i64 ((rd_T50 l0 x7_1).f2)]] (by rfl) rfl rfl (by (try simp only [List.map_toArray, List.map_cons, List.map_nil]); first | done | (simp only [hji14]; rfl) | rfl | (simp only [List.length_drop, List.length_take]; rfl)) ?_); (with_reducible refine (batch_order.calls k1 ((rd_T50 l0 (ji14)).f0) ((rd_T50 l0 (ji14)).f1) ((rd_T50 l0 (ji14)).f2) ((rd_T50 l0 x7_1).f0) ((rd_T50 l0 x7_1).f1) ((rd_T50 l0 x7_1).f2) t223 _ A17.out).mono ?_); rintro e w30 ⟨rfl, hb⟩; refine ⟨_, rfl, ?_⟩; (have n0_ := Aside0.mk (bkb BK220 hb)); (have n1_ := Aside0.mk (below_step (bn1 HB GE220) hb)); clear BK220; clear HB; (have BK220 := n0_); (have HB := n1_); clear n0_ n1_; (refine hK.out _ _ ⟨(blk_cell BK220.out 0).trans rfl, (blk_cell BK220.out 1).trans rfl, (blk_cell BK220.out 2).trans rfl, (ct HB hw222_0), (ct HB hw222_1), (ct HB hw222_2)⟩ (fun hHeld => ?_)); clear hK K; refine norm_ (a' := ?_) ?_ ?_; rotate_left
            ·(show Act.put _ (some 30) _ = _); simp only [Act.put, List.setIfInBounds_toArray, List.set_cons_zero, List.set_cons_succ, i64_w, i32_w]; rfl
            refine pv_ 19 31 (mk_ 20 2) HT_ ?_; refine pv_ 20 32 (mk_ 21 1) HT_ ?_; refine pv_ 21 33 (mk_ 22 0) HT_ ?_; refine done_ (done_of HT_.out (by kernel_rfl)) ?_; (try go_wp2); go_roundg k1
            case measure => have := HK1.out; omega
            case rel => exact ⟨(wrap64 (x7_1 + 1)), qr_, H', ⟨by have := HK1.out; omega⟩, ⟨bn1 HB GE220⟩⟩
          ·rw [if_neg c16] at H; (exact absurd H (by simp))
         ·rw [if_neg c15] at H; (exact absurd H (by simp))
        ·rw [if_neg c13] at H; (have c13b0 : decide (0 < x7_1) = false := decide_eq_false c13); clear c13; (have H' := Aside0.mk H); clear H; (have p219 : 0 ≤ (x7_1 : Int) := of_decide_eq_true (by assumption)); (have q219 : x7_1 < (l0.length : Int) := of_decide_eq_true (by assumption)); obtain ⟨ad219, e219, hx219_0, hx219_1, hx219_2⟩ := at_T50 HR0.out x7_1 p219 q219; cases e219; (replace hx219_0 := ct HB hx219_0); (replace hx219_1 := ct HB hx219_1); (replace hx219_2 := ct HB hx219_2); (replace p219 := eq_true p219); (replace q219 := eq_true q219); (try go_wp2_with (first | ((with_reducible refine gate_dst (N := 4) rfl ?_); refine box_event ?hg (N := 4) ?hd (cs := #[.int .i64 0, .int .u64 0, .int .i64 0]) (t := 50) ?hr ?_; (case hd => rfl); (case hg => rfl); (case hr => first | (go_simp; done) | (go_simp; rfl)); intro gb220 hg w31 hbox hb; have n1_ := Aside0.mk (hbox); have n2_ := Aside0.mk (gsz hg (bn HB)); have n3_ := Aside0.mk (gsz hg (bn HB)); replace HB := bb HB hb; have BK220 := n1_; have GW220 := n2_; have GE220 := n3_; clear n1_ n2_ n3_; clear hb hbox hg; have hcz32_0 : w31.cell? ⟨gb220, 0, none⟩ = some (.int .i64 0) := (blk_cell BK220.out 0).trans rfl; have hcz32_1 : w31.cell? ⟨gb220, 1, none⟩ = some (.int .u64 0) := (blk_cell BK220.out 1).trans rfl; have hcz32_2 : w31.cell? ⟨gb220, 2, none⟩ = some (.int .i64 0) := (blk_cell BK220.out 2).trans rfl; have hfz32_0 := blk_frozen BK220.out 0; have hfz32_1 := blk_frozen BK220.out 1; have hfz32_2 := blk_frozen BK220.out 2))); (have n0_ : Aside0 ((((w31.setCell ⟨gb220, 0, none⟩ (.int .i64 ((rd_T50 l0 x7_1).f0))).setCell ⟨gb220, 1, none⟩ (.int .u64 ((rd_T50 l0 x7_1).f1))).setCell ⟨gb220, 2, none⟩ (.int .i64 ((rd_T50 l0 x7_1).f2))).heap[gb220]? = some (.cells #[.int .i64 ((rd_T50 l0 x7_1).f0), .int .u64 ((rd_T50 l0 x7_1).f1), .int .i64 ((rd_T50 l0 x7_1).f2)] 50 (0, 0))) := ⟨by (with_reducible repeat (first | refine blk_drewN ?_ _ | refine blk_drew ?_ | refine blk_alloc ?_ _)); refine blk_put (cs := #[.int .i64 ((rd_T50 l0 x7_1).f0), .int .u64 ((rd_T50 l0 x7_1).f1), .int .i64 0]) ?_ 2 _ rfl; (with_reducible repeat (first | refine blk_drewN ?_ _ | refine blk_drew ?_ | refine blk_alloc ?_ _)); refine blk_put (cs := #[.int .i64 ((rd_T50 l0 x7_1).f0), .int .u64 0, .int .i64 0]) ?_ 1 _ rfl; (with_reducible repeat (first | refine blk_drewN ?_ _ | refine blk_drew ?_ | refine blk_alloc ?_ _)); refine blk_put (cs := #[.int .i64 0, .int .u64 0, .int .i64 0]) ?_ 0 _ rfl; (with_reducible repeat (first | refine blk_drewN ?_ _ | refine blk_drew ?_ | refine blk_alloc ?_ _)); exact BK220.out⟩); (have n1_ : Aside0 (Below w.heap.size w (((w31.setCell ⟨gb220, 0, none⟩ (.int .i64 ((rd_T50 l0 x7_1).f0))).setCell ⟨gb220, 1, none⟩ (.int .u64 ((rd_T50 l0 x7_1).f1))).setCell ⟨gb220, 2, none⟩ (.int .i64 ((rd_T50 l0 x7_1).f2)))) := ⟨bn1 HB GE220⟩); generalize (((w31.setCell ⟨gb220, 0, none⟩ (.int .i64 ((rd_T50 l0 x7_1).f0))).setCell ⟨gb220, 1, none⟩ (.int .u64 ((rd_T50 l0 x7_1).f1))).setCell ⟨gb220, 2, none⟩ (.int .i64 ((rd_T50 l0 x7_1).f2))) = w33 at n0_ n1_ ⊢
         (have BK220 := n0_); (have HB := n1_); clear n0_ n1_; (have n0_ := Aside0.mk (blk_drew BK220.out)); (have n1_ := Aside0.mk (below_drew1 HB.out)); clear BK220; clear HB; (have BK220 := n0_); (have HB := n1_); clear n0_ n1_; (refine start_ (n := 22) (S := fun w' => w'.cell? ⟨gb220, 0, none⟩ = some (.int .i64 ((rd_T50 l0 x7_1).f0)) ∧ w'.cell? ⟨gb220, 1, none⟩ = some (.int .u64 ((rd_T50 l0 x7_1).f1)) ∧ w'.cell? ⟨gb220, 2, none⟩ = some (.int .i64 ((rd_T50 l0 x7_1).f2))) (ds := []) (mk_ 0 22) (by kernel_rfl) rfl rfl ⟨(blk_cell BK220.out 0).trans rfl, (blk_cell BK220.out 1).trans rfl, (blk_cell BK220.out 2).trans rfl⟩ (fun hHeld => ?_); refine with_tabW batch_Right.tab4 batch_Right.bits4 (fun HT_ HW_ => ?_)); generalize w33.drew = w34 at BK220 HB hHeld ⊢; (refine tv_ 0 12 (mk_ 1 21) HT_ HW_ hHeld (hy := by rintro w' ⟨s0, s1, s2⟩; go_simp; with_reducible rfl) (h := ?_)); (refine one_ (i := 1) (N := some 13) (mk_ 2 20) rfl rfl (one_of HT_.out (by kernel_rfl)) (by decide) (fun K hK => ?_)); refine goes_ Try.func48 (by kernel_rfl) rfl #[.agg #[.int .i64 ((rd_T50 l0 x7_1).f0), .int .u64 ((rd_T50 l0 x7_1).f1), .int .i64 ((rd_T50 l0 x7_1).f2)]] (by rfl) rfl rfl am_ ?_; (with_reducible refine (batch_wrong.calls k1 ((rd_T50 l0 x7_1).f0) ((rd_T50 l0 x7_1).f1) ((rd_T50 l0 x7_1).f2) t221 _ A5.out).mono ?_); rintro e w35 ⟨rfl, hb⟩; refine ⟨_, rfl, ?_⟩; (have n0_ := Aside0.mk (bkb BK220 hb)); (have n1_ := Aside0.mk (below_step (bn1 HB GE220) hb)); clear BK220; clear HB; (have BK220 := n0_); (have HB := n1_); clear n0_ n1_; (refine hK.out _ _ ⟨(blk_cell BK220.out 0).trans rfl, (blk_cell BK220.out 1).trans rfl, (blk_cell BK220.out 2).trans rfl⟩ (fun hHeld => ?_)); clear hK K; refine norm_ (a' := ?_) ?_ ?_; rotate_left
         ·(show Act.put _ (some 13) _ = _); simp only [Act.put, List.setIfInBounds_toArray, List.set_cons_zero, List.set_cons_succ, i64_w, i32_w]; rfl
         refine pv_ 2 14 (mk_ 3 19) HT_ ?_; refine pv_ 3 15 (mk_ 4 18) HT_ ?_; refine pv_ 4 16 (mk_ 5 17) HT_ ?_; (refine tv_ 5 17 (mk_ 6 16) HT_ HW_ hHeld (hy := by rintro w' ⟨s0, s1, s2⟩; go_simp; with_reducible rfl) (h := ?_)); refine pv_ 6 18 (mk_ 7 15) HT_ ?_; refine pv_ 7 19 (mk_ 8 14) HT_ ?_; refine pv_ 8 20 (mk_ 9 13) HT_ ?_; refine pv_ 9 21 (mk_ 10 12) HT_ ?_; refine pv_ 10 22 (mk_ 11 11) HT_ ?_; refine pv_ 11 23 (mk_ 12 10) HT_ ?_; refine pu_ 12 24 (mk_ 13 9) HT_ ?_; refine pu_ 13 25 (mk_ 14 8) HT_ ?_; refine pu_ 14 26 (mk_ 15 7) HT_ ?_; refine pu_ 15 27 (mk_ 16 6) HT_ ?_; refine pu_ 16 28 (mk_ 17 5) HT_ ?_; refine pu_ 17 29 (mk_ 18 4) HT_ ?_; refine pu_ 18 30 (mk_ 19 3) HT_ ?_; refine pu_ 19 31 (mk_ 20 2) HT_ ?_; refine pv_ 20 32 (mk_ 21 1) HT_ ?_; refine pv_ 21 33 (mk_ 22 0) HT_ ?_; refine done_ (done_of HT_.out (by kernel_rfl)) ?_; (try go_wp2); go_roundg k1
         case measure => have := HK1.out; omega
         case rel => exact ⟨(wrap64 (x7_1 + 1)), qr_, H', ⟨by have := HK1.out; omega⟩, ⟨bn1 HB GE220⟩⟩
      ·rw [if_neg c6] at H; (have c6b0 : (t221 == 0) = false := beq_eq_false_iff_ne.mpr c6); (have c6b1 : (t221 != 0) = true := bne_iff_ne.mpr c6); (subst hT; cases H)
     ·rw [if_neg c4] at H; (exact absurd H (by simp))
    ·rw [if_neg c3] at H; (exact absurd H (by simp))
   ·rw [if_neg c2] at H; (have c2b0 : decide (x7_1 < (l0.length : Int)) = false := decide_eq_false c2); clear c2; obtain rfl := Option.some.inj H; go_wp2; go_ret; (exact ⟨by first | rfl | (simp [errW_none, errW_some] <;> rfl) | (simp [*, errW_none, errW_some] <;> rfl), bn HB⟩)
set_option maxHeartbeats 1000000 in
set_option maxRecDepth 100000 in
theorem port_calls (x : S50) (g m : Nat) (pA : Option Addr) (pn pc : Nat) (W : World) (hm : W.cell? ⟨m, 0, none⟩ = some (.pointer (some ⟨g, 0, none⟩))) (hg : W.cell? ⟨g, 0, none⟩ = some (.slice pA pn pc)) :
  Calls Try.prog 84 (#[.agg #[.int .i64 x.f0, .int .u64 x.f1, .int .i64 x.f2]] ++ #[.pointer (some ⟨m, 0, none⟩)]) W fun e w' => e = .returned (.bool (decide (x.f0 ≥ (pn : Int)))) ∧ Below W.heap.size W w' := by
 show Calls Try.prog 84 #[.agg #[.int .i64 x.f0, .int .u64 x.f1, .int .i64 x.f2], .pointer (some ⟨m, 0, none⟩)] W _
 have hgl := World.block_lt_of_cell? W _ hg
 have hml := World.block_lt_of_cell? W _ hm
 have HG := Aside0.mk hg
 have HM := Aside0.mk hm
 have HL := Aside0.mk hgl
 have HL2 := Aside0.mk hml
 clear hg hgl hm hml
 go_enter Try.func84, Try.ntmps84
 go_wp2_with fail
 have s0 : Below W.heap.size W (W.alloc (.cells #[.int .i64 x.f0, .int .u64 x.f1, .int .i64 x.f2] 50)) := (Below.refl _ _).alloc (Nat.le_refl _) _
 have s1 : (W.alloc (.cells #[.int .i64 x.f0, .int .u64 x.f1, .int .i64 x.f2] 50)).cell? ⟨W.heap.size, 0, none⟩ = some (.int .i64 x.f0) := by simp [go_sem]
 have s4 : (W.alloc (.cells #[.int .i64 x.f0, .int .u64 x.f1, .int .i64 x.f2] 50)).cell? ⟨g, 0, none⟩ = some (.slice pA pn pc) := (s0.cell (p := ⟨g, 0, none⟩) HL.out).trans HG.out
 have s3 : (W.alloc (.cells #[.int .i64 x.f0, .int .u64 x.f1, .int .i64 x.f2] 50)).cell? ⟨m, 0, none⟩ = some (.pointer (some ⟨g, 0, none⟩)) := (s0.cell (p := ⟨m, 0, none⟩) HL2.out).trans HM.out
 have s5 : W.heap.size < (W.alloc (.cells #[.int .i64 x.f0, .int .u64 x.f1, .int .i64 x.f2] 50)).heap.size := by simp
 generalize W.alloc (.cells #[.int .i64 x.f0, .int .u64 x.f1, .int .i64 x.f2] 50) = W1 at *
 go_region_held3 (fun w' => w'.cell? ⟨m, 0, none⟩ = some (.pointer (some ⟨g, 0, none⟩)) ∧ w'.cell? ⟨g, 0, none⟩ = some (.slice pA pn pc) ∧ w'.cell? ⟨W.heap.size, 0, none⟩ = some (.int .i64 x.f0) ∧ Below W.heap.size W w' ∧ W.heap.size < w'.heap.size)
  (first | exact ⟨s3, s4, s1, below_drew s0, s5⟩ | fail) (fail)
 all_goals
  rename_i hH
  have hb := hH.2.2.2.1
  go_wp2
  go_ret
  exact ⟨rfl, hb⟩
theorem at_any {w : World} {ok : Nat → Prop} {A : Option Addr} {n : Nat} {l : List S50} {S : Nat → Prop} {w' : World} (h : Kd.F k50 w (fun k => ¬ S k) A n l) (hk : Kept w w' S) : Kd.C k50 w' A n l := Kd.F_now (Kd.F_kept h hk (fun _ h => h))
theorem no_S {n k g : Nat} {fv : Value} (h1 : n ≤ k) (h3 : g < n) (h4 : ∀ k, fv.ownBlock = some k → k < n) : ¬ (k = g ∨ some k = fv.ownBlock) := fun hs => hs.elim (fun e => by omega) (fun e => by have := h4 k e.symm; omega)
set_option maxHeartbeats 1000000 in
set_option maxRecDepth 100000 in
theorem apply_ok (k g base : Nat) (pA : Option Addr) (pc : Nat) (P : List (List Int)) (wA : Option Addr) (wc : Nat) (was : List S50) (cA : Option Addr) (cc : Nat) (c b : List S50) (fA : Option Addr) (fn fc : Nat) (F r : List Int) (W : World)
  (hg : W.heap[g]? = some (.cells #[.slice pA P.length pc, .slice wA was.length wc, .slice fA fn fc] 118 (0, 0))) (hbg : base ≤ g)
  (hF : Kd.R (Kd.int .u64) 38 W base (fun k => k ≠ g) (.slice fA fn fc) F)
  (hP : Kd.F (Kd.slice 38 (Kd.int .u64)) W (fun k => ¬ (k = g ∨ some k = (Value.slice fA fn fc).ownBlock)) pA P.length P) (hpc : P.length ≤ pc)
  (hw : Kd.F k50 W (fun k => ¬ (k = g ∨ some k = (Value.slice fA fn fc).ownBlock)) wA was.length was) (hwc : was.length ≤ wc)
  (hc : Kd.F k50 W (fun k => ¬ (k = g ∨ some k = (Value.slice fA fn fc).ownBlock)) cA c.length c) (hcc : c.length ≤ cc)
  (hR : batch_Right.f k c = some true) (hp : c.any (fun x => decide (x.f0 ≥ (P.length : Int))) = false) (ha : bag_Apply.f k was c = some (b, 0)) (ht : turn_l0 k P was b c F 0 = some r) :
  Calls Try.prog 66 #[.pointer (some ⟨g, 0, none⟩), .slice cA c.length cc] W fun e w' => e = .returned (.int .i64 0) ∧ ∃ bA bc fv', w'.heap[g]? = some (.cells #[.slice pA P.length pc, .slice bA b.length bc, fv'] 118 (0, 0)) ∧ Kd.R (Kd.int .u64) 38 w' base (fun k => k ≠ g) fv' r ∧ Kd.C k50 w' bA b.length b ∧ b.length ≤ bc ∧ Kept W w' (fun k => k = g ∨ some k = (Value.slice fA fn fc).ownBlock) ∧ Below base W w' := by
 have hfl := Kd.R_lt hF
 have HS0 := Aside0.mk (St.mk hg hF (Kept.refl W _) (Below.refl base W))
 have HS1 := Aside0.mk (HS0.out.below hbg (below_alloc (Below.refl _ _) (.cells #[.pointer (some ⟨g, 0, none⟩)] 96)))
 have HN1 : Aside0 ((W.alloc (.cells #[.pointer (some ⟨g, 0, none⟩)] 96)).cell? ⟨W.heap.size, 0, none⟩ = some (.pointer (some ⟨g, 0, none⟩)) ∧ W.heap.size < (W.alloc (.cells #[.pointer (some ⟨g, 0, none⟩)] 96)).heap.size) := ⟨by simp [go_sem], by simp⟩
 have HP := Aside0.mk hP
 have HW := Aside0.mk hw
 have HCc := Aside0.mk hc
 have HRR := Aside0.mk hR
 have HPP := Aside0.mk hp
 have HA := Aside0.mk ha
 have HT := Aside0.mk ht
 have HFL := Aside0.mk hfl
 clear hP hw hc hF hR hp ha ht hfl hg
 go_enter Try.func66, Try.ntmps66
 go_wp2_with (first
  | (go_at_call 20; (with_reducible refine (batch_Right.calls k cA cc c true _ ?_ hcc HRR.out).mono ?_); (exact at_any (ok := fun _ => True) HCc.out HS1.out.kept); rintro e w2 ⟨rfl, hb⟩; have HS2 := Aside0.mk (HS1.out.below hbg hb); have HN2 := Aside0.mk (show _ ∧ _ from ⟨(hb.cell (p := ⟨W.heap.size, 0, none⟩) HN1.out.2).trans HN1.out.1, Nat.lt_of_lt_of_le HN1.out.2 hb.size⟩); have hn2 := HN2.out.1; clear hb)
  | (go_at_call 59; refine (containsFunc_calls 84 #[.pointer (some ⟨W.heap.size, 0, none⟩)] (fun x => decide (x.f0 ≥ (P.length : Int))) (fun args w => enters_ Try.func84 (by kernel_rfl) rfl args w) cA cc c _ (at_any (ok := fun _ => True) HCc.out HS2.out.kept) (fun W' hW' x hx => port_calls x g W.heap.size pA P.length pc W' ((hW'.cell (p := ⟨W.heap.size, 0, none⟩) HN2.out.2).trans HN2.out.1) (((HS2.out.below hbg hW').cell).1))).mono ?_; rintro e w3 ⟨he, hb⟩; rw [HPP.out] at he; subst he; have HS3 := Aside0.mk (HS2.out.below hbg hb); have HN3 := Aside0.mk (show _ ∧ _ from ⟨(hb.cell (p := ⟨W.heap.size, 0, none⟩) HN2.out.2).trans HN2.out.1, Nat.lt_of_lt_of_le HN2.out.2 hb.size⟩); have hn3 := HN3.out.1; obtain ⟨hx30, hx31, hx32, hz31, hz32⟩ := HS3.out.cell; clear hb)
  | (go_at_call 27; (with_reducible refine (bag_Apply.calls k wA wc was cA cc c b 0 _ ?_ hwc ?_ hcc HA.out).mono ?_); (exact at_any (ok := fun _ => True) HW.out HS3.out.kept); (exact at_any (ok := fun _ => True) HCc.out HS3.out.kept); rintro e w4 ⟨v4, rfl, ho, hb⟩; have HS4 := Aside0.mk (HS3.out.below hbg hb); have hn4 := (hb.cell (p := ⟨W.heap.size, 0, none⟩) HN3.out.2).trans HN3.out.1; obtain ⟨bA, bc, rfl⟩ := Kd.R_slice ho; have hbc := (Kd.R_reads' ho).2.1; have HO4 := Aside0.mk (Kd.F_mono (ok' := fun k => ¬ (k = g ∨ some k = (Value.slice fA fn fc).ownBlock)) (Kd.R_F (Kd.R_bound ho)) (fun k hk => no_S hk.2.1 (Nat.lt_of_lt_of_le (blk_lt HS0.out.hg) HS3.out.kept.1) (fun k hk => Nat.lt_of_lt_of_le (HFL.out k hk) HS3.out.kept.1))); clear ho hb)
  | (go_at_call 85; (with_reducible refine (turn_calls k g base pA pc P wA wc was bA bc b cA cc c fA fn fc F r _ HS4.out.hg hbg HS4.out.hF ?_ hpc ?_ hwc HO4.out hbc ?_ hcc HT.out).mono ?_); (exact Kd.F_kept HP.out HS4.out.kept (fun _ h => h)); (exact Kd.F_kept HW.out HS4.out.kept (fun _ h => h)); (exact Kd.F_kept HCc.out HS4.out.kept (fun _ h => h)); rintro e w5 ⟨rfl, fv5, hg5, hF5, hK5, hB5⟩; have H5 := Aside0.mk (show _ ∧ _ ∧ _ ∧ _ from ⟨hg5, hF5, hK5, hB5⟩); clear hg5 hF5 hK5 hB5))
 go_ret
 have HB4 := HS4.out.bel
 exact ⟨rfl, bA, bc, fv5, H5.out.1, H5.out.2.1, at_any (ok := fun _ => True) HO4.out H5.out.2.2.1, hbc, HS4.out.kept.then_ H5.out.2.2.1 (fun k hk => .inl hk), HB4.trans H5.out.2.2.2⟩
def slices_CloneC.f (l0 : List S50) : Option (List S50) := if l0.length < 5864062014805 then some l0 else none
set_option maxHeartbeats 400000 in
theorem slices_CloneC.calls (A0 : Option Addr) (c0 : Nat) (l0 : List S50) (r : List S50) (w : World) (hr0 : Kd.C k50 w A0 l0.length l0) (hc0 : l0.length ≤ c0) (h : slices_CloneC.f l0 = some r) :
  Calls Try.prog 50 #[.slice A0 l0.length c0] w fun e w' => ∃ v0_ : Value, e = .returned v0_ ∧ Kd.R k50 50 w' w.heap.size (fun _ => True) v0_ r ∧ Below w.heap.size w w' := by
 unfold slices_CloneC.f at h
 by_cases hlim : l0.length < 5864062014805
 ·rw [if_pos hlim] at h
  obtain rfl := Option.some.inj h
  have LM := Aside0.mk hlim
  clear hlim h
  have HR := Aside0.mk hr0
  clear hr0 hc0
  cases A0 with
  | none =>
   obtain rfl : l0 = [] := by
    have h1 := HR.out.2.2
    cases l0 with
    | nil => rfl
    | cons x xs =>
     obtain ⟨ad, h2, _⟩ := h1 (by simp)
     cases h2
   have hq := fun W : World => Go.Lib.run_eql_slice_nil_nil (P := Try.prog) W (t := 23) 0 c0 Try.underlying23
   go_enter Try.func50, Try.ntmps50
   go_wp2
   go_ret
   exact ⟨_, rfl, Kd.R_nil _ _ _ _ _, Below.refl _ _⟩
  | some ad =>
   have hq := fun W : World => Go.Lib.run_eql_slice_some_nil (P := Try.prog) W (t := 23) ad l0.length c0 Try.underlying23
   go_enter Try.func50, Try.ntmps50
   go_wp2_with (first | ((with_reducible refine gate_dst (N := 5) rfl ?_); refine Kd.R_lit k50 _ 50 ?hg (N := 5) ?hd (xs := ([] : List S50)) (inner := []) (ok := fun _ => True) (okp := fun _ => True) ?hr ?hp (fun _ hk => hk) trivial (Below.refl _ _) (Nat.le_refl _) (by simp) ?_; (case hd => rfl); (case hg => rfl); (case hr => first | (go_simp; done) | (go_simp; rfl)); (case hp => exact (Reps.none _ _)); intro v1 w1 ho1 hb1 hg_ hnew_; clear hg_ hnew_; have HB1 := Aside0.mk hb1; have HO1 := Aside0.mk ho1; clear hb1 ho1) | ((with_reducible refine gate_builtin (b := .append) (xs := #[.tmp 5, .tmp 6]) rfl ?_); at_builtin; refine Kd.R_append_rows k50 (w0 := w) w.heap.size rfl (.tmp 5) (.tmp 6) 23 50 (.agg #[(.int .i64 0), (.int .u64 0), (.int .i64 0)]) 24 rfl Try.underlying23 info50 rfl (by decide) (by omega) v1 [] l0 _ _ _ (fun _ => True) (fun _ => False) rfl rfl ?aO ?aR (fun _ _ h => h) (fun _ h => h.elim) ?aF ?aB ?aS ?aL ?_; (case aR => exact Kd.C_below HR.out HB1.out); (case aB => exact HB1.out); (case aF => exact (fun _ _ => trivial)); (case aO => exact HO1.out); (case aS => exact HB1.out.size); (case aL => have := LM.out; simp only [List.length_nil]; omega); intro v2 w2 ho hb hg hat; have HB2 := Aside0.mk hb; have HO2 := Aside0.mk ho; clear ho hb hg hat))
   go_ret
   exact ⟨_, rfl, by have := HO2.out; rwa [List.nil_append] at this, HB2.out⟩
 ·rw [if_neg hlim] at h
  cases h
def slices_CloneB.f (l0 : List S50) : Option (List S50) := if l0.length < 5864062014805 then some l0 else none
set_option maxHeartbeats 400000 in
theorem slices_CloneB.calls (A0 : Option Addr) (c0 : Nat) (l0 : List S50) (r : List S50) (w : World) (hr0 : Kd.C k50 w A0 l0.length l0) (hc0 : l0.length ≤ c0) (h : slices_CloneB.f l0 = some r) :
  Calls Try.prog 62 #[.slice A0 l0.length c0] w fun e w' => ∃ v0_ : Value, e = .returned v0_ ∧ Kd.R k50 50 w' w.heap.size (fun _ => True) v0_ r ∧ Below w.heap.size w w' := by
 unfold slices_CloneB.f at h
 by_cases hlim : l0.length < 5864062014805
 ·rw [if_pos hlim] at h
  obtain rfl := Option.some.inj h
  have LM := Aside0.mk hlim
  clear hlim h
  have HR := Aside0.mk hr0
  clear hr0 hc0
  cases A0 with
  | none =>
   obtain rfl : l0 = [] := by
    have h1 := HR.out.2.2
    cases l0 with
    | nil => rfl
    | cons x xs =>
     obtain ⟨ad, h2, _⟩ := h1 (by simp)
     cases h2
   have hq := fun W : World => Go.Lib.run_eql_slice_nil_nil (P := Try.prog) W (t := 25) 0 c0 Try.underlying25
   go_enter Try.func62, Try.ntmps62
   go_wp2
   go_ret
   exact ⟨_, rfl, Kd.R_nil _ _ _ _ _, Below.refl _ _⟩
  | some ad =>
   have hq := fun W : World => Go.Lib.run_eql_slice_some_nil (P := Try.prog) W (t := 25) ad l0.length c0 Try.underlying25
   go_enter Try.func62, Try.ntmps62
   go_wp2_with (first | ((with_reducible refine gate_dst (N := 5) rfl ?_); refine Kd.R_lit k50 _ 50 ?hg (N := 5) ?hd (xs := ([] : List S50)) (inner := []) (ok := fun _ => True) (okp := fun _ => True) ?hr ?hp (fun _ hk => hk) trivial (Below.refl _ _) (Nat.le_refl _) (by simp) ?_; (case hd => rfl); (case hg => rfl); (case hr => first | (go_simp; done) | (go_simp; rfl)); (case hp => exact (Reps.none _ _)); intro v1 w1 ho1 hb1 hg_ hnew_; clear hg_ hnew_; have HB1 := Aside0.mk hb1; have HO1 := Aside0.mk ho1; clear hb1 ho1) | ((with_reducible refine gate_builtin (b := .append) (xs := #[.tmp 5, .tmp 6]) rfl ?_); at_builtin; refine Kd.R_append_rows k50 (w0 := w) w.heap.size rfl (.tmp 5) (.tmp 6) 25 50 (.agg #[(.int .i64 0), (.int .u64 0), (.int .i64 0)]) 24 rfl Try.underlying25 info50 rfl (by decide) (by omega) v1 [] l0 _ _ _ (fun _ => True) (fun _ => False) rfl rfl ?aO ?aR (fun _ _ h => h) (fun _ h => h.elim) ?aF ?aB ?aS ?aL ?_; (case aR => exact Kd.C_below HR.out HB1.out); (case aB => exact HB1.out); (case aF => exact (fun _ _ => trivial)); (case aO => exact HO1.out); (case aS => exact HB1.out.size); (case aL => have := LM.out; simp only [List.length_nil]; omega); intro v2 w2 ho hb hg hat; have HB2 := Aside0.mk hb; have HO2 := Aside0.mk ho; clear ho hb hg hat))
   go_ret
   exact ⟨_, rfl, by have := HO2.out; rwa [List.nil_append] at this, HB2.out⟩
 ·rw [if_neg hlim] at h
  cases h
def slices_CloneU.f (l0 : List Int) : Option (List Int) := if l0.length < 17592186044416 then some l0 else none
set_option maxHeartbeats 400000 in
theorem slices_CloneU.calls (A0 : Option Addr) (c0 : Nat) (l0 : List Int) (r : List Int) (w : World) (hr0 : Kd.C (Kd.int .u64) w A0 l0.length l0) (hc0 : l0.length ≤ c0) (h : slices_CloneU.f l0 = some r) :
  Calls Try.prog 86 #[.slice A0 l0.length c0] w fun e w' => ∃ v0_ : Value, e = .returned v0_ ∧ Kd.R (Kd.int .u64) 38 w' w.heap.size (fun _ => True) v0_ r ∧ Below w.heap.size w w' := by
 unfold slices_CloneU.f at h
 by_cases hlim : l0.length < 17592186044416
 ·rw [if_pos hlim] at h
  obtain rfl := Option.some.inj h
  have LM := Aside0.mk hlim
  clear hlim h
  have HR := Aside0.mk hr0
  clear hr0 hc0
  cases A0 with
  | none =>
   obtain rfl : l0 = [] := by
    have h1 := HR.out.2.2
    cases l0 with
    | nil => rfl
    | cons x xs =>
     obtain ⟨ad, h2, _⟩ := h1 (by simp)
     cases h2
   have hq := fun W : World => Go.Lib.run_eql_slice_nil_nil (P := Try.prog) W (t := 67) 0 c0 Try.underlying67
   go_enter Try.func86, Try.ntmps86
   go_wp2
   go_ret
   exact ⟨_, rfl, Kd.R_nil _ _ _ _ _, Below.refl _ _⟩
  | some ad =>
   have hq := fun W : World => Go.Lib.run_eql_slice_some_nil (P := Try.prog) W (t := 67) ad l0.length c0 Try.underlying67
   go_enter Try.func86, Try.ntmps86
   go_wp2_with (first | ((with_reducible refine gate_dst (N := 5) rfl ?_); refine Kd.R_lit (Kd.int .u64) _ 38 ?hg (N := 5) ?hd (xs := ([] : List Int)) (inner := []) (ok := fun _ => True) (okp := fun _ => True) ?hr ?hp (fun _ hk => hk) trivial (Below.refl _ _) (Nat.le_refl _) (by simp) ?_; (case hd => rfl); (case hg => rfl); (case hr => first | (go_simp; done) | (go_simp; rfl)); (case hp => exact (Reps.none _ _)); intro v1 w1 ho1 hb1 hg_ hnew_; clear hg_ hnew_; have HB1 := Aside0.mk hb1; have HO1 := Aside0.mk ho1; clear hb1 ho1) | ((with_reducible refine gate_builtin (b := .append) (xs := #[.tmp 5, .tmp 6]) rfl ?_); at_builtin; refine Kd.R_append_rows (Kd.int .u64) (w0 := w) w.heap.size rfl (.tmp 5) (.tmp 6) 67 38 (.int .u64 0) 8 rfl Try.underlying67 info38 rfl (by decide) (by omega) v1 [] l0 _ _ _ (fun _ => True) (fun _ => False) rfl rfl ?aO ?aR (fun _ _ h => h) (fun _ h => h.elim) ?aF ?aB ?aS ?aL ?_; (case aR => exact Kd.C_below HR.out HB1.out); (case aB => exact HB1.out); (case aF => exact (fun _ _ => trivial)); (case aO => exact HO1.out); (case aS => exact HB1.out.size); (case aL => have := LM.out; simp only [List.length_nil]; omega); intro v2 w2 ho hb hg hat; have HB2 := Aside0.mk hb; have HO2 := Aside0.mk ho; clear ho hb hg hat))
   go_ret
   exact ⟨_, rfl, by have := HO2.out; rwa [List.nil_append] at this, HB2.out⟩
 ·rw [if_neg hlim] at h
  cases h
set_option maxHeartbeats 1000000 in
set_option maxRecDepth 100000 in
theorem apply_port (k g pn pc : Nat) (pA : Option Addr) (cA : Option Addr) (cc : Nat) (c : List S50) (W : World)
  (hg : W.cell? ⟨g, 0, none⟩ = some (.slice pA pn pc)) (hc : Kd.C k50 W cA c.length c) (hcc : c.length ≤ cc)
  (hR : batch_Right.f k c = some true) (hp : c.any (fun x => decide (x.f0 ≥ (pn : Int))) = true) :
  Calls Try.prog 66 #[.pointer (some ⟨g, 0, none⟩), .slice cA c.length cc] W fun e w' => e = .returned (.int .i64 2) ∧ Below W.heap.size W w' := by
 have hgl := World.block_lt_of_cell? W _ hg
 have HB1 := Aside0.mk (below_alloc (Below.refl W.heap.size W) (.cells #[.pointer (some ⟨g, 0, none⟩)] 96))
 have HN1 : Aside0 ((W.alloc (.cells #[.pointer (some ⟨g, 0, none⟩)] 96)).cell? ⟨W.heap.size, 0, none⟩ = some (.pointer (some ⟨g, 0, none⟩)) ∧ W.heap.size < (W.alloc (.cells #[.pointer (some ⟨g, 0, none⟩)] 96)).heap.size) := ⟨by simp [go_sem], by simp⟩
 have HG := Aside0.mk hg
 have HGL := Aside0.mk hgl
 have HCc := Aside0.mk hc
 have HRR := Aside0.mk hR
 have HPP := Aside0.mk hp
 clear hc hR hp hg hgl
 go_enter Try.func66, Try.ntmps66
 go_wp2_with (first
  | (go_at_call 20; (with_reducible refine (batch_Right.calls k cA cc c true _ ?_ hcc HRR.out).mono ?_); (exact Kd.C_below HCc.out HB1.out); rintro e w2 ⟨rfl, hb⟩; have HB2 := Aside0.mk (below_step HB1.out hb); have HN2 := Aside0.mk (show _ ∧ _ from ⟨(hb.cell (p := ⟨W.heap.size, 0, none⟩) HN1.out.2).trans HN1.out.1, Nat.lt_of_lt_of_le HN1.out.2 hb.size⟩); have hn2 := HN2.out.1; clear hb)
  | (go_at_call 59; refine (containsFunc_calls 84 #[.pointer (some ⟨W.heap.size, 0, none⟩)] (fun x => decide (x.f0 ≥ (pn : Int))) (fun args w => enters_ Try.func84 (by kernel_rfl) rfl args w) cA cc c _ (Kd.C_below HCc.out HB2.out) (fun W' hW' x hx => port_calls x g W.heap.size pA pn pc W' ((hW'.cell (p := ⟨W.heap.size, 0, none⟩) HN2.out.2).trans HN2.out.1) (((below_step HB2.out hW').cell (p := ⟨g, 0, none⟩) HGL.out).trans HG.out))).mono ?_; rintro e w3 ⟨he, hb⟩; rw [HPP.out] at he; subst he; have HB3 := Aside0.mk (below_step HB2.out hb); clear hb))
 go_ret
 exact ⟨rfl, HB3.out⟩
set_option maxHeartbeats 1000000 in
set_option maxRecDepth 100000 in
theorem fronts_calls (g : Nat) (fA : Option Addr) (fc : Nat) (F : List Int) (W : World) (hg : W.cell? ⟨g, 2, none⟩ = some (.slice fA F.length fc)) (hF : Kd.C (Kd.int .u64) W fA F.length F) (hfc : F.length ≤ fc) (hl : slices_CloneU.f F = some F) :
  Calls Try.prog 67 #[.pointer (some ⟨g, 0, none⟩)] W fun e w' => ∃ v, e = .returned v ∧ Kd.R (Kd.int .u64) 38 w' W.heap.size (fun _ => True) v F ∧ Below W.heap.size W w' := by
 have HF := Aside0.mk hF
 have HL := Aside0.mk hl
 clear hF hl
 go_enter Try.func67, Try.ntmps67
 go_wp2_with (first | (go_at_call 86; (with_reducible refine (slices_CloneU.calls fA fc F F _ HF.out hfc HL.out).mono ?_); rintro e w2 ⟨v, rfl, ho, hb⟩; have HO := Aside0.mk ho; have HB := Aside0.mk hb; clear ho hb))
 go_ret
 exact ⟨_, rfl, HO.out, HB.out⟩
set_option maxHeartbeats 1000000 in
set_option maxRecDepth 100000 in
theorem bag_calls (g : Nat) (bA : Option Addr) (bc : Nat) (b : List S50) (W : World) (hg : W.cell? ⟨g, 1, none⟩ = some (.slice bA b.length bc)) (hb : Kd.C k50 W bA b.length b) (hbc : b.length ≤ bc) (hl : slices_CloneB.f b = some b) :
  Calls Try.prog 68 #[.pointer (some ⟨g, 0, none⟩)] W fun e w' => ∃ v, e = .returned v ∧ Kd.R k50 50 w' W.heap.size (fun _ => True) v b ∧ Below W.heap.size W w' := by
 have HF := Aside0.mk hb
 have HL := Aside0.mk hl
 clear hb hl
 go_enter Try.func68, Try.ntmps68
 go_wp2_with (first | (go_at_call 62; (with_reducible refine (slices_CloneB.calls bA bc b b _ HF.out hbc HL.out).mono ?_); rintro e w2 ⟨v, rfl, ho, hb⟩; have HO := Aside0.mk ho; have HB := Aside0.mk hb; clear ho hb))
 go_ret
 exact ⟨_, rfl, HO.out, HB.out⟩
structure RS (w : World) (base g : Nat) (pA : Option Addr) (pc : Nat) (P : List (List Int)) (wA : Option Addr) (wc : Nat) (was : List S50) (fA : Option Addr) (fn fc : Nat) (F : List Int) : Prop where
 hg : w.heap[g]? = some (.cells #[.slice pA P.length pc, .slice wA was.length wc, .slice fA fn fc] 118 (0, 0))
 hbg : base ≤ g
 hF : Kd.R (Kd.int .u64) 38 w base (fun k => k ≠ g) (.slice fA fn fc) F
 hP : Kd.F (Kd.slice 38 (Kd.int .u64)) w (fun k => ¬ (k = g ∨ some k = (Value.slice fA fn fc).ownBlock)) pA P.length P
 hpc : P.length ≤ pc
 hw : Kd.F k50 w (fun k => ¬ (k = g ∨ some k = (Value.slice fA fn fc).ownBlock)) wA was.length was
 hwc : was.length ≤ wc
theorem RS.below {w w' : World} {base g : Nat} {pA : Option Addr} {pc : Nat} {P : List (List Int)} {wA : Option Addr} {wc : Nat} {was : List S50} {fA : Option Addr} {fn fc : Nat} {F : List Int} (h : RS w base g pA pc P wA wc was fA fn fc F) (hb : Below w.heap.size w w') : RS w' base g pA pc P wA wc was fA fn fc F :=
 ⟨blk_below h.hg hb, h.hbg, Kd.R_below h.hF hb, Kd.F_below h.hP hb, h.hpc, Kd.F_below h.hw hb, h.hwc⟩
set_option maxHeartbeats 1000000 in
set_option maxRecDepth 100000 in
theorem new_calls (k : Nat) (a0 : Int) (A1 : Option Addr) (c1 : Nat) (l1 : List S95) (A2 : Option Addr) (c2 : Nat) (l2 : List Int) (P : List (List Int)) (F : List Int) (W : World) (hr1 : Kd.C k95 W A1 l1.length l1) (hc1 : l1.length ≤ c1) (hr2 : Kd.C (Kd.int .i64) W A2 l2.length l2) (hc2 : l2.length ≤ c2)
  (h1 : graph_Check.f k a0 l1 l2 = some none) (h2 : graph_Paths.f k a0 l1 l2 = some P) (h3 : front_Of.f k P [] = some F) :
  Calls Try.prog 65 #[.agg #[.int .i64 a0, .slice A1 l1.length c1, .slice A2 l2.length c2]] W fun e w' => ∃ g pA pc fA fn fc, e = .returned (.tuple #[.pointer (some ⟨g, 0, none⟩), .nilIface]) ∧ RS w' W.heap.size g pA pc P none 0 [] fA fn fc F ∧ Below W.heap.size W w' := by
 have HB1 := Aside0.mk (below_alloc (Below.refl W.heap.size W) (.cells #[.int .i64 a0, .slice A1 l1.length c1, .slice A2 l2.length c2] 64))
 have HN1 : Aside0 ((W.alloc (.cells #[.int .i64 a0, .slice A1 l1.length c1, .slice A2 l2.length c2] 64)).heap[W.heap.size]? = some (.cells #[.int .i64 a0, .slice A1 l1.length c1, .slice A2 l2.length c2] 64 (0, 0))) := ⟨blk_new W _⟩
 have HR1 := Aside0.mk hr1
 have HR2 := Aside0.mk hr2
 have H1 := Aside0.mk h1
 have H2 := Aside0.mk h2
 have H3 := Aside0.mk h3
 clear hr1 hr2 h1 h2 h3
 go_enter Try.func65, Try.ntmps65
 go_wp2_with (first
  | (go_at_call 63; (with_reducible refine (graph_Check.calls k a0 A1 c1 l1 A2 c2 l2 none _ ?_ hc1 ?_ hc2 H1.out).mono ?_); (exact Kd.C_below HR1.out HB1.out); (exact Kd.C_below HR2.out HB1.out); rintro e w2 ⟨he, hb⟩; rw [errW_none] at he; subst he; have HB2 := Aside0.mk (below_step HB1.out hb); have HN2 := Aside0.mk (blk_below HN1.out hb); have hn0 := blk_cell HN2.out 0; have hn1 := blk_cell HN2.out 1; have hn2 := blk_cell HN2.out 2; simp only [List.getElem?_toArray, List.getElem?_cons_zero, List.getElem?_cons_succ] at hn0 hn1 hn2; clear hb)
  | (go_at_call 39; (with_reducible refine (graph_Paths.calls k a0 A1 c1 l1 A2 c2 l2 P _ ?_ hc1 ?_ hc2 H2.out).mono ?_); (exact Kd.C_below HR1.out HB2.out); (exact Kd.C_below HR2.out HB2.out); rintro e w3 ⟨v3, rfl, hs, hb⟩; obtain ⟨pA, pc, rfl⟩ := Kd.S_slice hs; have HS := Aside0.mk hs; have HB3 := Aside0.mk (below_step HB2.out hb); clear hs hb)
  | (go_at_call 43; (refine (front_Of.calls k pA pc P none 0 [] F _ ?_ ?_ ?_ ?_ H3.out).mono ?_); (exact (Kd.S_reads' HS.out).2.2); (exact (Kd.S_reads' HS.out).2.1); (exact Kd.C_nil _ _); (exact Nat.le_refl _); rintro e w5 ⟨v5, rfl, ho, hb⟩; obtain ⟨fA, fc, rfl⟩ := Kd.R_slice ho; have HO := Aside0.mk ho; have HB5 := Aside0.mk (show _ ∧ _ from ⟨below_step HB3.out hb, hb⟩); clear ho hb))
 go_ret2
 refine ⟨w5.heap.size, pA, pc, fA, F.length, fc, rfl, ⟨blk_new _ _, HB5.out.1.size, ?_, ?_, (Kd.S_reads' HS.out).2.1, Kd.F_nil _ _ _, Nat.le_refl _⟩, below_alloc HB5.out.1 _⟩
 ·exact Kd.R_alloc (Kd.R_lower (Kd.R_mono (Kd.R_bound HO.out) (fun k hk => by have h1 := hk.2.2.1; show k ≠ w5.heap.size; omega)) HB3.out.size) _
 ·refine Kd.F_alloc (Kd.F_mono (Kd.F_below (Kd.F_bound (Kd.S_F HS.out)) HB5.out.2) (fun k hk hs => ?_)) _
  have h1 := hk.2
  have h2 := HB5.out.2.size
  rcases hs with hs | hs
  ·omega
  ·have h3 := Kd.R_base HO.out k hs.symm
   omega
end Go.Proofs.Ytgeldmhgbnamcaa.P
end
