/- Walks and laws of several statements of this seat, joined into one text; no condition. -/
import Derived.Test.YtgeldmhgbnamcaaProg
import Derived.Below
import Derived.Deep.Draws
import Derived.Deep.AppendLies
import Derived.Maps.AppendAt
import Derived.OwnWalk
import Derived.Laws.BytesArg
import Derived.Laws.MakeOwn
import Derived.Laws.OwnMore
import Derived.Deep.OwnRows
import Derived.Tactics
import Derived.Lib.ConvBytes
import Derived.Laws.Slices
import Derived.WalkKit
import Derived.KernelRfl
import Derived.RowKit3
import Derived.Deep.LoopGhost
import Derived.Deep.QuietTactic
import Derived.BigQuiet
import Derived.WideLaws
import Derived.Deep.DeepCutAuto
import Derived.Deep.CutBlock
import Derived.Deep.RegionHeld3
import Derived.Laws.Rows
import Derived.Lib.AppendStr
import Derived.ArgAppend
import Derived.Laws.IdiomCopy
import Derived.OrdersHeld
import Derived.Laws.BitsLemmas
import Derived.RowKit
import Derived.Laws.StructEq
import Derived.Laws.CopyOwn
import Derived.Deep.RegionLaw
import Derived.LoopTactic
import Derived.Outline
import Derived.IntWalk
import Derived.Lib.BufferMore
import Derived.Deep.Slices
import Derived.SizedLaws
import Derived.OpenShut
import Derived.Lib.SmallJoins
import Derived.Test.YtgeldmhgbnamcaaFOa0
import Derived.Test.YtgeldmhgbnamcaaFOa1
import Derived.Test.YtgeldmhgbnamcaaFOa2
import Derived.Test.YtgeldmhgbnamcaaFOa3
import Derived.Test.YtgeldmhgbnamcaaFOa4
import Derived.Test.YtgeldmhgbnamcaaFOa5
import Derived.Test.YtgeldmhgbnamcaaFOa7
import Derived.Test.YtgeldmhgbnamcaaFOa8
import Derived.Test.YtgeldmhgbnamcaaFOa6
section
namespace Go.Proofs.Ytgeldmhgbnamcaa.P
open Go.RowKit Go.Proofs.YtgeldmhgbnamcaaW.PrintWords Go.Proofs.YtgeldmhgbnamcaaW.PrintLast Go.Proofs.YtgeldmhgbnamcaaW.PrintMore
set_option linter.unusedVariables false
set_option linter.unusedSimpArgs false
def marchlandlaw06_told.f : Option Bool := some true
theorem t6_check : graph_Check.f 30 2 [⟨0, 1, 3⟩] [0] = some none := by kernel_rfl
theorem t6_paths : graph_Paths.f 30 2 [⟨0, 1, 3⟩] [0] = some [[0, 3], [18446744073709551615, 0]] := by kernel_rfl
theorem t6_of : front_Of.f 30 [[0, 3], [18446744073709551615, 0]] [] = some [18446744073709551615, 18446744073709551615] := by kernel_rfl
theorem t6_right : batch_Right.f 30 [⟨0, 5, 1⟩] = some true := by kernel_rfl
theorem t6_right2 : batch_Right.f 30 [⟨2, 0, 1⟩] = some true := by kernel_rfl
theorem t6_apply : bag_Apply.f 30 [] [⟨0, 5, 1⟩] = some ([⟨0, 5, 1⟩], 0) := by kernel_rfl
theorem t6_turn : turn_l0 30 [[0, 3], [18446744073709551615, 0]] [] [⟨0, 5, 1⟩] [⟨0, 5, 1⟩] [18446744073709551615, 18446744073709551615] 0 = some [5, 8] := by kernel_rfl
theorem t6_same : marchlandref06_Same.f 30 [5, 8] [5, 8] = some true := by kernel_rfl
theorem t6_cu : slices_CloneU.f [5, 8] = some [5, 8] := by rfl
theorem t6_cb : slices_CloneB.f [⟨0, 5, 1⟩] = some [⟨0, 5, 1⟩] := by rfl
set_option maxHeartbeats 1000000 in
set_option maxRecDepth 100000 in
theorem marchlandlaw06_told.calls (r : Bool) (w : World) (h : marchlandlaw06_told.f = some r) : Calls Try.prog 41 #[] w fun e w' => e = .returned (.bool r) ∧ Below w.heap.size w w' := by
 obtain rfl := Option.some.inj h
 clear h
 have HB := Aside0.mk (Below.refl w.heap.size w)
 obtain ⟨E, hE⟩ : ∃ E : List S95, E = [(⟨0, 1, 3⟩ : S95)] := ⟨_, rfl⟩
 obtain ⟨I, hI⟩ : ∃ I : List Int, I = [0] := ⟨_, rfl⟩
 obtain ⟨P, hP⟩ : ∃ P : List (List Int), P = [[0, 3], [18446744073709551615, 0]] := ⟨_, rfl⟩
 obtain ⟨F, hF⟩ : ∃ F : List Int, F = [18446744073709551615, 18446744073709551615] := ⟨_, rfl⟩
 obtain ⟨c, hc⟩ : ∃ c : List S50, c = [(⟨0, 5, 1⟩ : S50)] := ⟨_, rfl⟩
 obtain ⟨c2, hc2⟩ : ∃ c : List S50, c = [(⟨2, 0, 1⟩ : S50)] := ⟨_, rfl⟩
 obtain ⟨b, hb⟩ : ∃ c : List S50, c = [(⟨0, 5, 1⟩ : S50)] := ⟨_, rfl⟩
 obtain ⟨G, hG⟩ : ∃ F : List Int, F = [5, 8] := ⟨_, rfl⟩
 have T1 := Aside0.mk (show graph_Check.f 30 2 E I = some none by rw [hE, hI]; exact t6_check)
 have T2 := Aside0.mk (show graph_Paths.f 30 2 E I = some P by rw [hE, hI, hP]; exact t6_paths)
 have T3 := Aside0.mk (show front_Of.f 30 P [] = some F by rw [hP, hF]; exact t6_of)
 have T4 := Aside0.mk (show batch_Right.f 30 c = some true by rw [hc]; exact t6_right)
 have T5 := Aside0.mk (show c.any (fun x => decide (x.f0 ≥ (P.length : Int))) = false by rw [hc, hP]; rfl)
 have T6 := Aside0.mk (show bag_Apply.f 30 [] c = some (b, 0) by rw [hc, hb]; exact t6_apply)
 have T7 := Aside0.mk (show turn_l0 30 P [] b c F 0 = some G by rw [hP, hb, hc, hF, hG]; exact t6_turn)
 have T8 := Aside0.mk (show slices_CloneU.f G = some G by rw [hG]; exact t6_cu)
 have T9 := Aside0.mk (show marchlandref06_Same.f 30 G G = some true by rw [hG]; exact t6_same)
 have T10 := Aside0.mk (show slices_CloneB.f b = some b by rw [hb]; exact t6_cb)
 have T11 := Aside0.mk (show batch_Right.f 30 c2 = some true by rw [hc2]; exact t6_right2)
 have T12 := Aside0.mk (show c2.any (fun x => decide (x.f0 ≥ (P.length : Int))) = true by rw [hc2, hP]; rfl)
 have hb1 : ((b.length : Int) == 1) = true := by rw [hb]; rfl
 have HE := Aside0.mk hE
 have HI := Aside0.mk hI
 have HC := Aside0.mk hc
 have HC2 := Aside0.mk hc2
 have HG := Aside0.mk hG
 clear hE hI hP hF hc hc2 hb hG
 go_enter Try.func41, Try.ntmps41
 go_wp2_with (first
  | ((with_reducible refine gate_dst (N := 6) rfl ?_); refine Kd.R_lit k95 _ 95 ?hg (N := 6) ?hd (xs := ([(⟨0, 1, 3⟩ : S95)] : List S95)) (inner := [.int .i64 0, .int .i64 1, .int .u64 3]) (ok := fun _ => True) (okp := fun _ => True) ?hr ?hp (fun _ hk => hk) trivial (Below.refl _ _) (Nat.le_refl _) (by simp) ?_; (case hd => rfl); (case hg => rfl); (case hr => first | (go_simp; done) | (go_simp; rfl)); (case hp => exact (Reps.c3 (show Kd.M k95 _ _ _ (⟨0, 1, 3⟩ : S95) [.int .i64 0, .int .i64 1, .int .u64 3] from (k95_mkM _ _ _ (⟨0, 1, 3⟩ : S95) )) (Reps.none _ _))); intro v6 w6 ho hb hg_ hn_; clear hg_ hn_; rw [← HE.out] at ho; obtain ⟨A1, c1, rfl⟩ := Kd.R_slice ho; have HO1 := Aside0.mk ho; have n1_ := Aside0.mk (below_step (by repeat (first | (with_reducible first | exact HB.out | apply below_alloc | apply pw_below_drewN | apply below_drew1) | exact HB.out)) hb); clear HB; have HB := n1_; clear n1_ ho hb)
  | ((with_reducible refine gate_dst (N := 7) rfl ?_); refine Kd.R_lit (Kd.int .i64) _ 3 ?hg (N := 7) ?hd (xs := ([0] : List Int)) (inner := [.int .i64 0]) (ok := fun _ => True) (okp := fun _ => True) ?hr ?hp (fun _ hk => hk) trivial (Below.refl _ _) (Nat.le_refl _) (by simp) ?_; (case hd => rfl); (case hg => rfl); (case hr => first | (go_simp; done) | (go_simp; rfl)); (case hp => exact (Reps.one (show Kd.M (Kd.int .i64) _ _ _ 0 [.int .i64 0] from rfl) (Reps.none _ _))); intro v7 w7 ho hb hg_ hn_; clear hg_ hn_; rw [← HI.out] at ho; obtain ⟨A2, c2_, rfl⟩ := Kd.R_slice ho; have HO2 := Aside0.mk ho; have HO1b := Aside0.mk (Kd.R_below HO1.out hb); have n1_ := Aside0.mk (below_step (by repeat (first | (with_reducible first | exact HB.out | apply below_alloc | apply pw_below_drewN | apply below_drew1) | exact HB.out)) hb); clear HB; have HB := n1_; clear n1_ ho hb)
  | (go_at_call 65; (with_reducible refine (new_calls 30 2 A1 c1 E A2 c2_ I P F _ ?_ ?_ ?_ ?_ T1.out T2.out T3.out).mono ?_); (exact (Kd.R_reads' HO1b.out).2.2); (exact (Kd.R_reads' HO1b.out).2.1); (exact (Kd.R_reads' HO2.out).2.2); (exact (Kd.R_reads' HO2.out).2.1); rintro e w9 ⟨g, pA, pc, fA, fn, fc, rfl, hrs, hb⟩; have HRS := Aside0.mk hrs; have HW9 := Aside0.mk (HB.out.size); have n1_ := Aside0.mk (below_step (by repeat (first | (with_reducible first | exact HB.out | apply below_alloc | apply pw_below_drewN | apply below_drew1) | exact HB.out)) hb); clear HB; have HB := n1_; clear n1_ hrs hb)
  | ((with_reducible refine gate_dst (N := 21) rfl ?_); (try (refine gate_guard (by rfl) ?_; dsimp only)); refine Kd.R_lit k50 _ 50 ?hg (N := 21) ?hd (xs := ([(⟨0, 5, 1⟩ : S50)] : List S50)) (inner := [.int .i64 0, .int .u64 5, .int .i64 1]) (ok := fun _ => True) (okp := fun _ => True) ?hr ?hp (fun _ hk => hk) trivial (Below.refl _ _) (Nat.le_refl _) (by simp) ?_; (case hd => rfl); (case hg => rfl); (case hr => first | (go_simp; done) | (go_simp; rfl)); (case hp => exact (Reps.c3 (show Kd.M k50 _ _ _ (⟨0, 5, 1⟩ : S50) [.int .i64 0, .int .u64 5, .int .i64 1] from (k50_mkM _ _ _ (⟨0, 5, 1⟩ : S50) )) (Reps.none _ _))); intro v21 w21 ho hb hg_ hn_; clear hg_ hn_; rw [← HC.out] at ho; obtain ⟨cA, cc, rfl⟩ := Kd.R_slice ho; have HO3 := Aside0.mk ho; have HRS2 := Aside0.mk (HRS.out.below hb); have HFC := Aside0.mk (Kd.F_mono (ok' := fun k => ¬ (k = g ∨ some k = (Value.slice fA fn fc).ownBlock)) (Kd.R_F (Kd.R_bound ho)) (fun k hk => no_S hk.2.1 (blk_lt HRS.out.hg) (fun k hk => Kd.R_lt HRS.out.hF k hk))); have n1_ := Aside0.mk (below_step (by repeat (first | (with_reducible first | exact HB.out | apply below_alloc | apply pw_below_drewN | apply below_drew1) | exact HB.out)) hb); clear HB; have HB := n1_; clear n1_ ho hb)
  | (go_at_call 66; (with_reducible refine (apply_ok 30 g _ pA pc P none 0 [] cA cc c b fA fn fc F G _ HRS2.out.hg HRS2.out.hbg HRS2.out.hF HRS2.out.hP HRS2.out.hpc HRS2.out.hw HRS2.out.hwc HFC.out ?_ T4.out T5.out T6.out T7.out).mono ?_); (exact (Kd.R_reads' HO3.out).2.1); rintro e w22 ⟨rfl, bA, bc, fv, hg1, hf1, hc1, hbc, _, hb⟩; obtain ⟨fA2, fc2, rfl⟩ := Kd.R_slice hf1; have HX := Aside0.mk (show _ ∧ _ ∧ _ ∧ _ from ⟨hg1, hf1, hc1, hbc⟩); have n1_ := Aside0.mk (below_weaken HB.out HW9.out hb); clear HB; have HB := n1_; clear n1_ hg1 hf1 hc1 hbc hb)
  | (go_at_call 67; (with_reducible refine (fronts_calls g fA2 fc2 G _ ((blk_cell HX.out.1 2).trans rfl) (Kd.R_reads' HX.out.2.1).2.2 (Kd.R_reads' HX.out.2.1).2.1 T8.out).mono ?_); rintro e w26 ⟨v26, rfl, ho, hb⟩; obtain ⟨A4, c4, rfl⟩ := Kd.R_slice ho; have HO4 := Aside0.mk ho; have HX2 := Aside0.mk (show _ ∧ _ from ⟨blk_below HX.out.1 hb, Kd.C_below HX.out.2.2.1 hb⟩); have n1_ := Aside0.mk (below_step (by repeat (first | (with_reducible first | exact HB.out | apply below_alloc | apply pw_below_drewN | apply below_drew1) | exact HB.out)) hb); clear HB; have HB := n1_; clear n1_ ho hb)
  | ((with_reducible refine gate_dst (N := 28) rfl ?_); refine Kd.R_lit (Kd.int .u64) _ 38 ?hg (N := 28) ?hd (xs := ([5, 8] : List Int)) (inner := [.int .u64 5, .int .u64 8]) (ok := fun _ => True) (okp := fun _ => True) ?hr ?hp (fun _ hk => hk) trivial (Below.refl _ _) (Nat.le_refl _) (by simp) ?_; (case hd => rfl); (case hg => rfl); (case hr => first | (go_simp; done) | (go_simp; rfl)); (case hp => exact (Reps.one (show Kd.M (Kd.int .u64) _ _ _ 5 [.int .u64 5] from rfl) (Reps.one (show Kd.M (Kd.int .u64) _ _ _ 8 [.int .u64 8] from rfl) (Reps.none _ _)))); intro v28 w28 ho hb hg_ hn_; clear hg_ hn_; rw [← HG.out] at ho; obtain ⟨A5, c5, rfl⟩ := Kd.R_slice ho; have HO5 := Aside0.mk ho; have HO4b := Aside0.mk (Kd.R_below HO4.out hb); have HX3 := Aside0.mk (show _ ∧ _ from ⟨blk_below HX2.out.1 hb, Kd.C_below HX2.out.2 hb⟩); have n1_ := Aside0.mk (below_step (by repeat (first | (with_reducible first | exact HB.out | apply below_alloc | apply pw_below_drewN | apply below_drew1) | exact HB.out)) hb); clear HB; have HB := n1_; clear n1_ ho hb)
  | (go_at_call 42; (with_reducible refine (marchlandref06_Same.calls 30 A4 c4 G A5 c5 G true _ ?_ ?_ ?_ ?_ T9.out).mono ?_); (exact (Kd.R_reads' HO4b.out).2.2); (exact (Kd.R_reads' HO4b.out).2.1); (exact (Kd.R_reads' HO5.out).2.2); (exact (Kd.R_reads' HO5.out).2.1); rintro e w29 ⟨rfl, hd⟩; have hb := Drawn0.below hd; have HX4 := Aside0.mk (show _ ∧ _ from ⟨blk_below HX3.out.1 hb, Kd.C_below HX3.out.2 hb⟩); have n1_ := Aside0.mk (below_step (by repeat (first | (with_reducible first | exact HB.out | apply below_alloc | apply pw_below_drewN | apply below_drew1) | exact HB.out)) hb); clear HB; have HB := n1_; clear n1_ hd hb)
  | (go_at_call 68; (with_reducible refine (bag_calls g bA bc b _ ((blk_cell HX4.out.1 1).trans rfl) HX4.out.2 HX.out.2.2.2 T10.out).mono ?_); rintro e w32 ⟨v32, rfl, ho, hb⟩; obtain ⟨A6, c6, rfl⟩ := Kd.R_slice ho; have HX5 := Aside0.mk (blk_below HX4.out.1 hb); have n1_ := Aside0.mk (below_step (by repeat (first | (with_reducible first | exact HB.out | apply below_alloc | apply pw_below_drewN | apply below_drew1) | exact HB.out)) hb); clear HB; have HB := n1_; clear n1_ ho hb)
  | ((with_reducible refine gate_dst (N := 39) rfl ?_); (try (refine gate_guard (by rfl) ?_; dsimp only)); refine Kd.R_lit k50 _ 50 ?hg (N := 39) ?hd (xs := ([(⟨2, 0, 1⟩ : S50)] : List S50)) (inner := [.int .i64 2, .int .u64 0, .int .i64 1]) (ok := fun _ => True) (okp := fun _ => True) ?hr ?hp (fun _ hk => hk) trivial (Below.refl _ _) (Nat.le_refl _) (by simp) ?_; (case hd => rfl); (case hg => rfl); (case hr => first | (go_simp; done) | (go_simp; rfl)); (case hp => exact (Reps.c3 (show Kd.M k50 _ _ _ (⟨2, 0, 1⟩ : S50) [.int .i64 2, .int .u64 0, .int .i64 1] from (k50_mkM _ _ _ (⟨2, 0, 1⟩ : S50) )) (Reps.none _ _))); intro v39 w39 ho hb hg_ hn_; clear hg_ hn_; rw [← HC2.out] at ho; obtain ⟨cA2, cc2, rfl⟩ := Kd.R_slice ho; have HO6 := Aside0.mk ho; have HX6 := Aside0.mk (blk_below HX5.out hb); have n1_ := Aside0.mk (below_step (by repeat (first | (with_reducible first | exact HB.out | apply below_alloc | apply pw_below_drewN | apply below_drew1) | exact HB.out)) hb); clear HB; have HB := n1_; clear n1_ ho hb)
  | (go_at_call 66; (with_reducible refine (apply_port 30 g P.length pc pA cA2 cc2 c2 _ ((blk_cell HX6.out 0).trans rfl) (Kd.R_reads' HO6.out).2.2 (Kd.R_reads' HO6.out).2.1 T11.out T12.out).mono ?_); rintro e w40 ⟨rfl, hb⟩; have n1_ := Aside0.mk (below_step (by repeat (first | (with_reducible first | exact HB.out | apply below_alloc | apply pw_below_drewN | apply below_drew1) | exact HB.out)) hb); clear HB; have HB := n1_; clear n1_ hb))
 go_ret
 exact ⟨rfl, HB.out⟩
attribute [local go_sem] max2_int min2_int max_two min_two max_three min_three max_four min_four   -- for this text's walks alone
/-! ### marchlandlaw06_FrontOf: function 11 -/
def marchlandlaw06_FrontOf.f (k : Nat) (a0_0 : Int) (l0_1 : List (S90)) (l0_2 : List Int) (l1 : List (S40)) : Option (Bool) := (marchlandref05_Fix.f k a0_0 l0_1 l0_2).bind fun bt850 => ((marchlandref04_Fix.f k l1).bind fun t857 => ((marchlandlaw05_To.f k bt850.1 bt850.2.1 bt850.2.2).bind fun bt860 => ((graph_Paths.f k bt860.1 bt860.2.1 bt860.2.2).bind fun t867 => ((marchlandlaw06_told.f).bind fun t870 => (if t870 = true then ((marchlandlaw03_To.f k t857).bind fun t871 => ((front_Of.f k t867 t871).bind fun t874 => ((marchlandref05_Paths.f k bt850.1 bt850.2.1 bt850.2.2).bind fun t877 => ((marchlandref06_Of.f k t877 t857).bind fun t880 => ((marchlandref06_Same.f k t874 t880).bind fun t883 => (if t883 = true then ((marchlandref05_Paths.f k bt850.1 bt850.2.1 bt850.2.2).bind fun t884 => ((marchlandlaw05_Rows.f k t867 t884).bind fun t887 => (some t887))) else (some false))))))) else (some false))))))
def marchlandlaw06_FrontOf.T3 : Bool × List (List Nat × List Nat) := (true, [([], []), ([0, 0], [0]), ([1], [1]), ([1], [1]), ([3, 1, 1], [1, 3]), ([2, 4, 4, 1], [1, 2, 4]), ([1], [1]), ([6, 5, 1], [1, 6]), ([1], [1]), ([7, 8, 7, 1], [1, 7, 8]), ([5, 9, 9, 1], [1, 5, 9]), ([1, 10], [1, 10]), ([11, 10], [11]), ([12], [12]), ([12], [12]), ([14, 12, 12], [12, 14]), ([13, 15, 15, 12], [12, 13, 15]), ([12, 16], [12, 16]), ([17, 16, 0, 1, 2, 3, 4, 5, 6, 7, 8, 9, 10, 11, 12, 13, 14, 15, 16, 17], [17])])
def marchlandlaw06_FrontOf.B3 : List Nat := [0, 1, 3, 3, 11, 31, 3, 127, 3, 511, 1023, 2047, 4095, 8191, 8191, 24575, 65535, 131071, 262143]
theorem marchlandlaw06_FrontOf.tab3 : rtab .any (opsOf Try.f11 3) = marchlandlaw06_FrontOf.T3 := by kernel_rfl
theorem marchlandlaw06_FrontOf.bits3 : waitsOk marchlandlaw06_FrontOf.T3.2 marchlandlaw06_FrontOf.B3 = true := by kernel_rfl
set_option maxHeartbeats 8000000 in
set_option maxRecDepth 100000 in
theorem marchlandlaw06_FrontOf.calls (k : Nat) (a0_0 : Int) (A0_1 : Option Addr) (c0_1 : Nat) (l0_1 : List (S90)) (A0_2 : Option Addr) (c0_2 : Nat) (l0_2 : List Int) (A1 : Option Addr) (c1 : Nat) (l1 : List (S40)) (r : Bool) (w : World) (hr0_1 : Kd.C k90 w A0_1 l0_1.length l0_1) (hc0_1 : l0_1.length ≤ c0_1) (hr0_2 : Kd.C (Kd.int .i64) w A0_2 l0_2.length l0_2) (hc0_2 : l0_2.length ≤ c0_2) (hr1 : Kd.C k40 w A1 l1.length l1) (hc1 : l1.length ≤ c1) (h : marchlandlaw06_FrontOf.f k a0_0 l0_1 l0_2 l1 = some r) (hT : r = true := by rfl) :
  Calls Try.prog 11 #[.agg #[.int .i64 a0_0, .slice A0_1 l0_1.length c0_1, .slice A0_2 l0_2.length c0_2], .slice A1 l1.length c1] w fun e w' => e = .returned (.bool r) ∧ Below w.heap.size w w' := by
 (have hu58 := Try.underlying58); (have HR0_1 := Aside0.mk hr0_1); (have HC0_1 := Aside0.mk hc0_1); clear hr0_1 hc0_1; (have HR0_2 := Aside0.mk hr0_2); (have HC0_2 := Aside0.mk hc0_2); clear hr0_2 hc0_2; (have HR1 := Aside0.mk hr1); (have HC1 := Aside0.mk hc1); clear hr1 hc1; (have HB := Aside0.mk (Below.refl w.heap.size w)); (have H : ((marchlandref05_Fix.f k a0_0 l0_1 l0_2).bind fun bt850 => ((marchlandref04_Fix.f k l1).bind fun t857 => ((marchlandlaw05_To.f k bt850.1 bt850.2.1 bt850.2.2).bind fun bt860 => ((graph_Paths.f k bt860.1 bt860.2.1 bt860.2.2).bind fun t867 => ((marchlandlaw06_told.f).bind fun t870 => (if t870 = true then ((marchlandlaw03_To.f k t857).bind fun t871 => ((front_Of.f k t867 t871).bind fun t874 => ((marchlandref05_Paths.f k bt850.1 bt850.2.1 bt850.2.2).bind fun t877 => ((marchlandref06_Of.f k t877 t857).bind fun t880 => ((marchlandref06_Same.f k t874 t880).bind fun t883 => (if t883 = true then ((marchlandref05_Paths.f k bt850.1 bt850.2.1 bt850.2.2).bind fun t884 => ((marchlandlaw05_Rows.f k t867 t884).bind fun t887 => (some t887))) else (some false))))))) else (some false))))))) = some r := h); clear h; (replace H := Option.bind_eq_some_iff.mp H); obtain ⟨⟨t850, t851, t854⟩, A30, H⟩ := H; (replace H : ((marchlandref04_Fix.f k l1).bind fun t857 => ((marchlandlaw05_To.f k t850 t851 t854).bind fun bt860 => ((graph_Paths.f k bt860.1 bt860.2.1 bt860.2.2).bind fun t867 => ((marchlandlaw06_told.f).bind fun t870 => (if t870 = true then ((marchlandlaw03_To.f k t857).bind fun t871 => ((front_Of.f k t867 t871).bind fun t874 => ((marchlandref05_Paths.f k t850 t851 t854).bind fun t877 => ((marchlandref06_Of.f k t877 t857).bind fun t880 => ((marchlandref06_Same.f k t874 t880).bind fun t883 => (if t883 = true then ((marchlandref05_Paths.f k t850 t851 t854).bind fun t884 => ((marchlandlaw05_Rows.f k t867 t884).bind fun t887 => (some t887))) else (some false))))))) else (some false)))))) = some r := H); (have A3 := Aside0.mk A30); clear A30; (replace H := Option.bind_eq_some_iff.mp H); obtain ⟨t857, A40, H⟩ := H; (replace H : ((marchlandlaw05_To.f k t850 t851 t854).bind fun bt860 => ((graph_Paths.f k bt860.1 bt860.2.1 bt860.2.2).bind fun t867 => ((marchlandlaw06_told.f).bind fun t870 => (if t870 = true then ((marchlandlaw03_To.f k t857).bind fun t871 => ((front_Of.f k t867 t871).bind fun t874 => ((marchlandref05_Paths.f k t850 t851 t854).bind fun t877 => ((marchlandref06_Of.f k t877 t857).bind fun t880 => ((marchlandref06_Same.f k t874 t880).bind fun t883 => (if t883 = true then ((marchlandref05_Paths.f k t850 t851 t854).bind fun t884 => ((marchlandlaw05_Rows.f k t867 t884).bind fun t887 => (some t887))) else (some false))))))) else (some false))))) = some r := H); (have A4 := Aside0.mk A40); clear A40; (replace H := Option.bind_eq_some_iff.mp H); obtain ⟨⟨t860, t861, t864⟩, A50, H⟩ := H; (replace H : ((graph_Paths.f k t860 t861 t864).bind fun t867 => ((marchlandlaw06_told.f).bind fun t870 => (if t870 = true then ((marchlandlaw03_To.f k t857).bind fun t871 => ((front_Of.f k t867 t871).bind fun t874 => ((marchlandref05_Paths.f k t850 t851 t854).bind fun t877 => ((marchlandref06_Of.f k t877 t857).bind fun t880 => ((marchlandref06_Same.f k t874 t880).bind fun t883 => (if t883 = true then ((marchlandref05_Paths.f k t850 t851 t854).bind fun t884 => ((marchlandlaw05_Rows.f k t867 t884).bind fun t887 => (some t887))) else (some false))))))) else (some false)))) = some r := H)
 (have A5 := Aside0.mk A50); clear A50; (replace H := Option.bind_eq_some_iff.mp H); obtain ⟨t867, A60, H⟩ := H; (replace H : ((marchlandlaw06_told.f).bind fun t870 => (if t870 = true then ((marchlandlaw03_To.f k t857).bind fun t871 => ((front_Of.f k t867 t871).bind fun t874 => ((marchlandref05_Paths.f k t850 t851 t854).bind fun t877 => ((marchlandref06_Of.f k t877 t857).bind fun t880 => ((marchlandref06_Same.f k t874 t880).bind fun t883 => (if t883 = true then ((marchlandref05_Paths.f k t850 t851 t854).bind fun t884 => ((marchlandlaw05_Rows.f k t867 t884).bind fun t887 => (some t887))) else (some false))))))) else (some false))) = some r := H); (have A6 := Aside0.mk A60); clear A60; (replace H := Option.bind_eq_some_iff.mp H); obtain ⟨t870, A70, H⟩ := H; (replace H : (if t870 = true then ((marchlandlaw03_To.f k t857).bind fun t871 => ((front_Of.f k t867 t871).bind fun t874 => ((marchlandref05_Paths.f k t850 t851 t854).bind fun t877 => ((marchlandref06_Of.f k t877 t857).bind fun t880 => ((marchlandref06_Same.f k t874 t880).bind fun t883 => (if t883 = true then ((marchlandref05_Paths.f k t850 t851 t854).bind fun t884 => ((marchlandlaw05_Rows.f k t867 t884).bind fun t887 => (some t887))) else (some false))))))) else (some false)) = some r := H); (have A7 := Aside0.mk A70); clear A70; by_cases c8 : t870 = true
 ·subst c8; (have H1 : ((marchlandlaw03_To.f k t857).bind fun t871 => ((front_Of.f k t867 t871).bind fun t874 => ((marchlandref05_Paths.f k t850 t851 t854).bind fun t877 => ((marchlandref06_Of.f k t877 t857).bind fun t880 => ((marchlandref06_Same.f k t874 t880).bind fun t883 => (if t883 = true then ((marchlandref05_Paths.f k t850 t851 t854).bind fun t884 => ((marchlandlaw05_Rows.f k t867 t884).bind fun t887 => (some t887))) else (some false))))))) = some r := by rw [if_pos rfl] at H; exact H); clear H; (have H := H1); clear H1; (replace H := Option.bind_eq_some_iff.mp H); obtain ⟨t871, A90, H⟩ := H; (replace H : ((front_Of.f k t867 t871).bind fun t874 => ((marchlandref05_Paths.f k t850 t851 t854).bind fun t877 => ((marchlandref06_Of.f k t877 t857).bind fun t880 => ((marchlandref06_Same.f k t874 t880).bind fun t883 => (if t883 = true then ((marchlandref05_Paths.f k t850 t851 t854).bind fun t884 => ((marchlandlaw05_Rows.f k t867 t884).bind fun t887 => (some t887))) else (some false)))))) = some r := H); (have A9 := Aside0.mk A90); clear A90; (replace H := Option.bind_eq_some_iff.mp H); obtain ⟨t874, A100, H⟩ := H; (replace H : ((marchlandref05_Paths.f k t850 t851 t854).bind fun t877 => ((marchlandref06_Of.f k t877 t857).bind fun t880 => ((marchlandref06_Same.f k t874 t880).bind fun t883 => (if t883 = true then ((marchlandref05_Paths.f k t850 t851 t854).bind fun t884 => ((marchlandlaw05_Rows.f k t867 t884).bind fun t887 => (some t887))) else (some false))))) = some r := H); (have A10 := Aside0.mk A100); clear A100; (replace H := Option.bind_eq_some_iff.mp H); obtain ⟨t877, A110, H⟩ := H; (replace H : ((marchlandref06_Of.f k t877 t857).bind fun t880 => ((marchlandref06_Same.f k t874 t880).bind fun t883 => (if t883 = true then ((marchlandref05_Paths.f k t850 t851 t854).bind fun t884 => ((marchlandlaw05_Rows.f k t867 t884).bind fun t887 => (some t887))) else (some false)))) = some r := H); (have A11 := Aside0.mk A110); clear A110; (replace H := Option.bind_eq_some_iff.mp H); obtain ⟨t880, A120, H⟩ := H; (replace H : ((marchlandref06_Same.f k t874 t880).bind fun t883 => (if t883 = true then ((marchlandref05_Paths.f k t850 t851 t854).bind fun t884 => ((marchlandlaw05_Rows.f k t867 t884).bind fun t887 => (some t887))) else (some false))) = some r := H); (have A12 := Aside0.mk A120); clear A120; (replace H := Option.bind_eq_some_iff.mp H); obtain ⟨t883, A130, H⟩ := H; (replace H : (if t883 = true then ((marchlandref05_Paths.f k t850 t851 t854).bind fun t884 => ((marchlandlaw05_Rows.f k t867 t884).bind fun t887 => (some t887))) else (some false)) = some r := H); (have A13 := Aside0.mk A130); clear A130; by_cases c14 : t883 = true
  ·subst c14; (have H1 : ((marchlandref05_Paths.f k t850 t851 t854).bind fun t884 => ((marchlandlaw05_Rows.f k t867 t884).bind fun t887 => (some t887))) = some r := by rw [if_pos rfl] at H; exact H); clear H; (have H := H1); clear H1; (replace H := Option.bind_eq_some_iff.mp H); obtain ⟨t884, A150, H⟩ := H; (replace H : ((marchlandlaw05_Rows.f k t867 t884).bind fun t887 => (some t887)) = some r := H); (have A15 := Aside0.mk A150); clear A150; (replace H := Option.bind_eq_some_iff.mp H); obtain ⟨t887, A160, H⟩ := H; (replace H : (some t887) = some r := H); (have A16 := Aside0.mk A160); clear A160; obtain rfl := Option.some.inj H; go_enter Try.func11, Try.ntmps11; (try go_wp2_with (first | ((with_reducible refine gate_dst (N := 2) rfl ?_); refine box_event ?hg (N := 2) ?hd (cs := #[.int .i64 a0_0, .slice A0_1 l0_1.length c0_1, .slice A0_2 l0_2.length c0_2]) (t := 58) ?hr ?_; (case hd => rfl); (case hg => rfl); (case hr => first | (go_simp; done) | (go_simp; rfl)); intro gb849 hg w17 hbox hb; have n1_ := Aside0.mk (hbox); have n2_ := Aside0.mk (gsz hg (bn HB)); have n3_ := Aside0.mk (gsz hg (bn HB)); replace HB := bb HB hb; have BK849 := n1_; have GW849 := n2_; have GE849 := n3_; clear n1_ n2_ n3_; clear hb hbox hg; have hcz18_0 : w17.cell? ⟨gb849, 0, none⟩ = some (.int .i64 a0_0) := (blk_cell BK849.out 0).trans rfl; have hcz18_1 : w17.cell? ⟨gb849, 1, none⟩ = some (.slice A0_1 l0_1.length c0_1) := (blk_cell BK849.out 1).trans rfl; have hcz18_2 : w17.cell? ⟨gb849, 2, none⟩ = some (.slice A0_2 l0_2.length c0_2) := (blk_cell BK849.out 2).trans rfl; have hfz18_0 := blk_frozen BK849.out 0; have hfz18_1 := blk_frozen BK849.out 1; have hfz18_2 := blk_frozen BK849.out 2) | ((with_reducible refine gate_callee (f := 38) rfl ?_); refine gl (some 7) Try.func38 #[.agg #[.int .i64 a0_0, .slice A0_1 l0_1.length c0_1, .slice A0_2 l0_2.length c0_2]] ?_; (with_reducible refine (marchlandref05_Fix.calls k a0_0 _ _ l0_1 _ _ l0_2 t850 t851 t854 _ ?side1 ?side2 ?side3 ?side4 A3.out).mono ?_); (case side1 => repeat (first | exact (Kd.C_below HR0_1.out HB.out) | (with_reducible refine Kd.C_alloc ?_ _) | (with_reducible refine Kd.C_drewN ?_ _) | (with_reducible refine Kd.C_drew ?_))); (case side2 => exact HC0_1.out); (case side3 => repeat (first | exact (Kd.C_below HR0_2.out HB.out) | (with_reducible refine Kd.C_alloc ?_ _) | (with_reducible refine Kd.C_drewN ?_ _) | (with_reducible refine Kd.C_drew ?_))); (case side4 => exact HC0_2.out); rintro e w19 ⟨v852, v855, rfl, ho0, ho1, hb⟩; refine ⟨_, rfl, ?_⟩; have n0_ := Aside0.mk (Kd.R_lower ho0 (below_size (bn1 HB GE849))); have n1_ := Aside0.mk (Kd.R_lower ho1 (below_size (bn1 HB GE849))); have n2_ := Aside0.mk (bkb BK849 hb); have n3_ := Aside0.mk (below_step (bn1 HB GE849) hb); clear BK849; clear HB; have HO853 := n0_; have HO856 := n1_; have BK849 := n2_; have HB := n3_; clear n0_ n1_ n2_ n3_; (try clear hb); (try clear ho0); (try clear ho1)) | ((with_reducible refine gate_callee (f := 26) rfl ?_); refine gl (some 9) Try.func26 #[.slice A1 l1.length c1] ?_; (with_reducible refine (marchlandref04_Fix.calls k _ _ l1 t857 _ ?side1 ?side2 A4.out).mono ?_); (case side1 => repeat (first | exact (Kd.C_below HR1.out HB.out) | (with_reducible refine Kd.C_alloc ?_ _) | (with_reducible refine Kd.C_drewN ?_ _) | (with_reducible refine Kd.C_drew ?_))); (case side2 => exact HC1.out); rintro e w20 ⟨v858, rfl, ho0, hb⟩; refine ⟨_, rfl, ?_⟩; have n2_ := Aside0.mk (Kd.R_lower ho0 (below_size (bn1 HB GE849))); have n3_ := Aside0.mk (bkb BK849 hb); have n4_ := Aside0.mk (below_step (bn1 HB GE849) hb); clear BK849; clear HB; replace HO853 := rb HO853 hb; replace HO856 := rb HO856 hb; have HO859 := n2_; have BK849 := n3_; have HB := n4_; clear n2_ n3_ n4_; (try clear hb); (try clear ho0); have hcz21_0 : w20.cell? ⟨gb849, 0, none⟩ = some (.int .i64 a0_0) := (blk_cell BK849.out 0).trans rfl; have hcz21_1 : w20.cell? ⟨gb849, 1, none⟩ = some (.slice A0_1 l0_1.length c0_1) := (blk_cell BK849.out 1).trans rfl; have hcz21_2 : w20.cell? ⟨gb849, 2, none⟩ = some (.slice A0_2 l0_2.length c0_2) := (blk_cell BK849.out 2).trans rfl; have hfz21_0 := blk_frozen BK849.out 0; have hfz21_1 := blk_frozen BK849.out 1; have hfz21_2 := blk_frozen BK849.out 2; obtain ⟨Ao22, co22, eo22⟩ := Kd.R_slice HO853.out; subst eo22; obtain ⟨Ao23, co23, eo23⟩ := Kd.R_slice HO856.out; subst eo23) | ((with_reducible refine gate_callee (f := 40) rfl ?_); refine gl (some 11) Try.func40 #[.agg #[.int .i64 t850, .slice Ao22 t851.length co22, .slice Ao23 t854.length co23]] ?_; (with_reducible refine (marchlandlaw05_To.calls k t850 _ _ t851 _ _ t854 t860 t861 t864 _ ?side1 ?side2 ?side3 ?side4 A5.out).mono ?_); (case side1 => refine (Kd.R_reads' (e := 90) (base := w.heap.size) (ok := fun k_ => True) (n := t851.length) (c := co22) ?_).2.2; exact (by (with_reducible repeat (first | apply Kd.R_alloc | apply Kd.R_drewN | apply Kd.R_drew)); exact (Kd.R_mono (Kd.R_far (p := ⟨gb849, 2, none⟩) (Kd.R_far (p := ⟨gb849, 1, none⟩) (Kd.R_far (p := ⟨gb849, 0, none⟩) (Kd.R_types HO853.out BK849.out (by decide)) (fun _ hk => hk.2) (.int .i64 t850)) (fun _ hk => hk.2) (.slice Ao22 t851.length co22)) (fun _ hk => hk.2) (.slice Ao23 t854.length co23)) (fun _ h_ => h_.1)))); (case side2 => exact rs HO853); (case side3 => refine (Kd.R_reads' (e := 3) (base := w.heap.size) (ok := fun k_ => True) (n := t854.length) (c := co23) ?_).2.2; exact (by (with_reducible repeat (first | apply Kd.R_alloc | apply Kd.R_drewN | apply Kd.R_drew)); exact (Kd.R_mono (Kd.R_far (p := ⟨gb849, 2, none⟩) (Kd.R_far (p := ⟨gb849, 1, none⟩) (Kd.R_far (p := ⟨gb849, 0, none⟩) (Kd.R_types HO856.out BK849.out (by decide)) (fun _ hk => hk.2) (.int .i64 t850)) (fun _ hk => hk.2) (.slice Ao22 t851.length co22)) (fun _ hk => hk.2) (.slice Ao23 t854.length co23)) (fun _ h_ => h_.1)))); (case side4 => exact rs HO856); rintro e w24 ⟨v862, v865, rfl, ho0, ho1, hb⟩; refine ⟨_, rfl, ?_⟩; have n0_ := Aside0.mk (Kd.R_below (by (with_reducible repeat (first | apply Kd.R_alloc | apply Kd.R_drewN | apply Kd.R_drew)); exact (Kd.R_mono (Kd.R_far (p := ⟨gb849, 2, none⟩) (Kd.R_far (p := ⟨gb849, 1, none⟩) (Kd.R_far (p := ⟨gb849, 0, none⟩) (Kd.R_types HO853.out BK849.out (by decide)) (fun _ hk => hk.2) (.int .i64 t850)) (fun _ hk => hk.2) (.slice Ao22 t851.length co22)) (fun _ hk => hk.2) (.slice Ao23 t854.length co23)) (fun _ h_ => h_.1))) hb); have n1_ := Aside0.mk (Kd.R_elder' (by (with_reducible repeat (first | apply Kd.R_alloc | apply Kd.R_drewN | apply Kd.R_drew)); exact (Kd.R_mono (Kd.R_far (p := ⟨gb849, 2, none⟩) (Kd.R_far (p := ⟨gb849, 1, none⟩) (Kd.R_far (p := ⟨gb849, 0, none⟩) (Kd.R_types HO856.out BK849.out (by decide)) (fun _ hk => hk.2) (.int .i64 t850)) (fun _ hk => hk.2) (.slice Ao22 t851.length co22)) (fun _ hk => hk.2) (.slice Ao23 t854.length co23)) (fun _ h_ => h_.1))) (Kd.R_base ho1) hb); have n2_ := Aside0.mk (Kd.R_below (by (with_reducible repeat (first | apply Kd.R_alloc | apply Kd.R_drewN | apply Kd.R_drew)); exact (Kd.R_mono (Kd.R_far (p := ⟨gb849, 2, none⟩) (Kd.R_far (p := ⟨gb849, 1, none⟩) (Kd.R_far (p := ⟨gb849, 0, none⟩) (Kd.R_types HO859.out BK849.out (by decide)) (fun _ hk => hk.2) (.int .i64 t850)) (fun _ hk => hk.2) (.slice Ao22 t851.length co22)) (fun _ hk => hk.2) (.slice Ao23 t854.length co23)) (fun _ h_ => h_.1))) hb); have n3_ := Aside0.mk (Kd.R_lower ho0 (below_size (bn1 HB GE849))); have n4_ := Aside0.mk (Kd.R_lower (Kd.R_new' ho1 (Kd.R_lt (by (with_reducible repeat (first | apply Kd.R_alloc | apply Kd.R_drewN | apply Kd.R_drew)); exact (Kd.R_mono (Kd.R_far (p := ⟨gb849, 2, none⟩) (Kd.R_far (p := ⟨gb849, 1, none⟩) (Kd.R_far (p := ⟨gb849, 0, none⟩) (Kd.R_types HO856.out BK849.out (by decide)) (fun _ hk => hk.2) (.int .i64 t850)) (fun _ hk => hk.2) (.slice Ao22 t851.length co22)) (fun _ hk => hk.2) (.slice Ao23 t854.length co23)) (fun _ h_ => h_.1))))) (below_size (bn1 HB GE849))); have n5_ := Aside0.mk (blk_below (g := gb849) (o := .cells #[.int .i64 t850, .slice Ao22 t851.length co22, .slice Ao23 t854.length co23] 58 (0, 0)) (by (with_reducible repeat (first | refine blk_drewN ?_ _ | refine blk_drew ?_ | refine blk_alloc ?_ _)); refine blk_put (cs := #[.int .i64 t850, .slice Ao22 t851.length co22, .slice A0_2 l0_2.length c0_2]) ?_ 2 _ rfl; (with_reducible repeat (first | refine blk_drewN ?_ _ | refine blk_drew ?_ | refine blk_alloc ?_ _)); refine blk_put (cs := #[.int .i64 t850, .slice A0_1 l0_1.length c0_1, .slice A0_2 l0_2.length c0_2]) ?_ 1 _ rfl; (with_reducible repeat (first | refine blk_drewN ?_ _ | refine blk_drew ?_ | refine blk_alloc ?_ _)); refine blk_put (cs := #[.int .i64 a0_0, .slice A0_1 l0_1.length c0_1, .slice A0_2 l0_2.length c0_2]) ?_ 0 _ rfl; (with_reducible repeat (first | refine blk_drewN ?_ _ | refine blk_drew ?_ | refine blk_alloc ?_ _)); exact BK849.out) hb); have n6_ := Aside0.mk (below_step (bn1 HB GE849) hb); clear HO853; clear HO856; clear HO859; clear BK849; clear HB; have HO853 := n0_; have HO856 := n1_; have HO859 := n2_; have HO863 := n3_; have HO866 := n4_; have BK849 := n5_; have HB := n6_; clear n0_ n1_ n2_ n3_ n4_ n5_ n6_; (try clear hb); (try clear hk); (try clear ho0); (try clear ho1); obtain ⟨Ao25, co25, eo25⟩ := Kd.R_slice HO863.out; subst eo25; obtain ⟨Ao26, co26, eo26⟩ := Kd.R_slice HO866.out; subst eo26) | ((with_reducible refine gate_callee (f := 39) rfl ?_); refine gl (some 12) Try.func39 #[.agg #[.int .i64 t860, .slice Ao25 t861.length co25, .slice Ao26 t864.length co26]] ?_; (with_reducible refine (graph_Paths.calls k t860 _ _ t861 _ _ t864 t867 _ ?side1 ?side2 ?side3 ?side4 A6.out).mono ?_); (case side1 => exact rc HO863); (case side2 => exact rs HO863); (case side3 => exact rc HO866); (case side4 => exact rs HO866); rintro e w27 ⟨v868, rfl, ho0, hb⟩; refine ⟨_, rfl, ?_⟩; have n5_ := Aside0.mk (Kd.S_lower ho0 (below_size (bn1 HB GE849))); have n6_ := Aside0.mk (bkb BK849 hb); have n7_ := Aside0.mk (below_step (bn1 HB GE849) hb); clear BK849; clear HB; replace HO853 := rb HO853 hb; replace HO856 := rb HO856 hb; replace HO859 := rb HO859 hb; replace HO863 := rb HO863 hb; replace HO866 := rb HO866 hb; have HO869 := n5_; have BK849 := n6_; have HB := n7_; clear n5_ n6_ n7_; (try clear hb); (try clear ho0))))
   (have n0_ := Aside0.mk (Kd.R_drew HO853.out)); (have n1_ := Aside0.mk (Kd.R_drew HO856.out)); (have n2_ := Aside0.mk (Kd.R_drew HO859.out)); (have n3_ := Aside0.mk (Kd.R_drew HO863.out)); (have n4_ := Aside0.mk (Kd.R_drew HO866.out)); (have n5_ := Aside0.mk (Kd.S_drew HO869.out)); (have n6_ := Aside0.mk (blk_drew BK849.out)); (have n7_ := Aside0.mk (below_drew1 HB.out)); clear HO853; clear HO856; clear HO859; clear HO863; clear HO866; clear HO869; clear BK849; clear HB; (have HO853 := n0_); (have HO856 := n1_); (have HO859 := n2_); (have HO863 := n3_); (have HO866 := n4_); (have HO869 := n5_); (have BK849 := n6_); (have HB := n7_); clear n0_ n1_ n2_ n3_ n4_ n5_ n6_ n7_; (refine start_ (n := 19) (S := fun w' => w'.cell? ⟨gb849, 0, none⟩ = some (.int .i64 t850) ∧ w'.cell? ⟨gb849, 1, none⟩ = some (.slice Ao22 t851.length co22) ∧ w'.cell? ⟨gb849, 2, none⟩ = some (.slice Ao23 t854.length co23)) (ds := []) (mk_ 0 19) (by kernel_rfl) rfl rfl ⟨(blk_cell BK849.out 0).trans rfl, (blk_cell BK849.out 1).trans rfl, (blk_cell BK849.out 2).trans rfl⟩ (fun hHeld => ?_); refine with_tabW marchlandlaw06_FrontOf.tab3 marchlandlaw06_FrontOf.bits3 (fun HT_ HW_ => ?_)); generalize w27.drew = w28 at HO853 HO856 HO859 HO863 HO866 HO869 BK849 HB hHeld ⊢; (refine one_ (i := 0) (N := some 13) (mk_ 1 18) rfl rfl (one_of HT_.out (by kernel_rfl)) (by decide) (fun K hK => ?_)); refine goes_ Try.func41 (by kernel_rfl) rfl #[] (by rfl) rfl rfl am_ ?_; (with_reducible refine (marchlandlaw06_told.calls  true _ A7.out).mono ?_); rintro e w29 ⟨rfl, hb⟩; refine ⟨_, rfl, ?_⟩; (have n0_ := Aside0.mk (Kd.R_below (rn HO853) hb)); (have n1_ := Aside0.mk (Kd.R_below (rn HO856) hb)); (have n2_ := Aside0.mk (Kd.R_below (rn HO859) hb)); (have n3_ := Aside0.mk (Kd.R_below (rn HO863) hb)); (have n4_ := Aside0.mk (Kd.R_below (rn HO866) hb)); (have n5_ := Aside0.mk (Kd.S_below (sn HO869) hb)); (have n6_ := Aside0.mk (bkb BK849 hb)); (have n7_ := Aside0.mk (below_step (bn1 HB GE849) hb)); clear HO853; clear HO856; clear HO859; clear HO863; clear HO866; clear HO869; clear BK849; clear HB; (have HO853 := n0_); (have HO856 := n1_); (have HO859 := n2_); (have HO863 := n3_); (have HO866 := n4_); (have HO869 := n5_); (have BK849 := n6_); (have HB := n7_); clear n0_ n1_ n2_ n3_ n4_ n5_ n6_ n7_; obtain ⟨Ao30, co30, eo30⟩ := Kd.R_slice HO859.out; (first | subst eo30 | (injection eo30 with f1_ f2_ f3_; have f4_ := f1_.symm; have f5_ := f3_.symm; clear f1_ f2_ f3_; subst f4_; subst f5_)); (refine hK.out _ _ ⟨(blk_cell BK849.out 0).trans rfl, (blk_cell BK849.out 1).trans rfl, (blk_cell BK849.out 2).trans rfl⟩ (fun hHeld => ?_)); clear hK K; refine norm_ (a' := ?_) ?_ ?_; rotate_left
   ·(show Act.put _ (some 13) _ = _); simp only [Act.put, List.setIfInBounds_toArray, List.set_cons_zero, List.set_cons_succ, i64_w, i32_w]; rfl
   refine pv_ 1 14 (mk_ 2 17) HT_ ?_; refine pv_ 2 15 (mk_ 3 16) HT_ ?_; refine pv_ 3 16 (mk_ 4 15) HT_ ?_; refine pv_ 8 21 (mb_ 19 271) HT_ ?_; (refine tv_ 6 19 (mb_ 19 335) HT_ HW_ hHeld (hy := by rintro w' ⟨s0, s1, s2⟩; go_simp; with_reducible rfl) (h := ?_)); (refine one_ (i := 4) (N := some 17) (mb_ 19 351) rfl rfl (one_of HT_.out (by kernel_rfl)) (by decide) (fun K hK => ?_)); refine goes_ Try.func14 (by kernel_rfl) rfl #[.slice Ao30 t857.length co30] (by rfl) rfl rfl am_ ?_; (with_reducible refine (marchlandlaw03_To.calls k _ _ t857 t871 _ ?side1 ?side2 A9.out).mono ?_); (case side1 => exact rc HO859); (case side2 => exact rs HO859); rintro e w31 ⟨v872, rfl, ho0, hb⟩; refine ⟨_, rfl, ?_⟩; (have n0_ := Aside0.mk (Kd.R_below (rn HO853) hb)); (have n1_ := Aside0.mk (Kd.R_below (rn HO856) hb)); (have n2_ := Aside0.mk (Kd.R_below (rn HO859) hb)); (have n3_ := Aside0.mk (Kd.R_below (rn HO863) hb)); (have n4_ := Aside0.mk (Kd.R_below (rn HO866) hb)); (have n5_ := Aside0.mk (Kd.S_below (sn HO869) hb)); (have n6_ := Aside0.mk (Kd.R_lower ho0 (below_size (bn1 HB GE849)))); (have n7_ := Aside0.mk (bkb BK849 hb)); (have n8_ := Aside0.mk (below_step (bn1 HB GE849) hb)); clear HO853; clear HO856; clear HO859; clear HO863; clear HO866; clear HO869; clear BK849; clear HB; (have HO853 := n0_); (have HO856 := n1_); (have HO859 := n2_); (have HO863 := n3_); (have HO866 := n4_); (have HO869 := n5_); (have HO873 := n6_); (have BK849 := n7_); (have HB := n8_); clear n0_ n1_ n2_ n3_ n4_ n5_ n6_ n7_ n8_; obtain ⟨Ao32, co32, eo32⟩ := Kd.S_slice HO869.out; (first | subst eo32 | (injection eo32 with f1_ f2_ f3_; have f4_ := f1_.symm; have f5_ := f3_.symm; clear f1_ f2_ f3_; subst f4_; subst f5_)); obtain ⟨Ao33, co33, eo33⟩ := Kd.R_slice HO873.out; (first | subst eo33 | (injection eo33 with f1_ f2_ f3_; have f4_ := f1_.symm; have f5_ := f3_.symm; clear f1_ f2_ f3_; subst f4_; subst f5_)); (refine hK.out _ _ ⟨(blk_cell BK849.out 0).trans rfl, (blk_cell BK849.out 1).trans rfl, (blk_cell BK849.out 2).trans rfl⟩ (fun hHeld => ?_)); clear hK K; refine norm_ (a' := ?_) ?_ ?_; rotate_left
   ·(show Act.put _ (some 17) _ = _); simp only [Act.put, List.setIfInBounds_toArray, List.set_cons_zero, List.set_cons_succ, i64_w, i32_w]; rfl
   (refine one_ (i := 5) (N := some 18) (mb_ 19 383) rfl rfl (one_of HT_.out (by kernel_rfl)) (by decide) (fun K hK => ?_)); refine goes_ Try.func43 (by kernel_rfl) rfl #[.slice Ao32 t867.length co32, .slice Ao33 t871.length co33] (by rfl) rfl rfl am_ ?_; (with_reducible refine (front_Of.calls k _ _ t867 _ _ t871 t874 _ ?side1 ?side2 ?side3 ?side4 A10.out).mono ?_); (case side1 => repeat (first | exact (Kd.S_reads' HO869.out).2.2 | (with_reducible refine Kd.C_alloc ?_ _) | (with_reducible refine Kd.C_drewN ?_ _) | (with_reducible refine Kd.C_drew ?_))); (case side2 => exact (Kd.S_reads' HO869.out).2.1); (case side3 => exact rc HO873); (case side4 => exact rs HO873); rintro e w34 ⟨v875, rfl, ho0, hb⟩; refine ⟨_, rfl, ?_⟩; (have n0_ := Aside0.mk (Kd.R_below (rn HO853) hb)); (have n1_ := Aside0.mk (Kd.R_below (rn HO856) hb)); (have n2_ := Aside0.mk (Kd.R_below (rn HO859) hb)); (have n3_ := Aside0.mk (Kd.R_below (rn HO863) hb)); (have n4_ := Aside0.mk (Kd.R_below (rn HO866) hb)); (have n5_ := Aside0.mk (Kd.S_elder' (sn HO869) (Kd.R_base ho0) hb)); (have n6_ := Aside0.mk (Kd.R_below (rn HO873) hb)); (have n7_ := Aside0.mk (Kd.R_lower ho0 (below_size (bn1 HB GE849)))); (have n8_ := Aside0.mk (bkb BK849 hb)); (have n9_ := Aside0.mk (below_step (bn1 HB GE849) hb)); clear HO853; clear HO856; clear HO859; clear HO863; clear HO866; clear HO869; clear HO873; clear BK849; clear HB; (have HO853 := n0_); (have HO856 := n1_); (have HO859 := n2_); (have HO863 := n3_); (have HO866 := n4_); (have HO869 := n5_); (have HO873 := n6_); (have HO876 := n7_); (have BK849 := n8_); (have HB := n9_); clear n0_ n1_ n2_ n3_ n4_ n5_ n6_ n7_ n8_ n9_; (refine hK.out _ _ ⟨(blk_cell BK849.out 0).trans rfl, (blk_cell BK849.out 1).trans rfl, (blk_cell BK849.out 2).trans rfl⟩ (fun hHeld => ?_)); clear hK K; refine norm_ (a' := ?_) ?_ ?_; rotate_left
   ·(show Act.put _ (some 18) _ = _); simp only [Act.put, List.setIfInBounds_toArray, List.set_cons_zero, List.set_cons_succ, i64_w, i32_w]; rfl
   (refine one_ (i := 7) (N := some 20) (mk_ 9 10) rfl rfl (one_of HT_.out (by kernel_rfl)) (by decide) (fun K hK => ?_)); refine goes_ Try.func45 (by kernel_rfl) rfl #[.agg #[.int .i64 t850, .slice Ao22 t851.length co22, .slice Ao23 t854.length co23]] (by rfl) rfl rfl am_ ?_; (with_reducible refine (marchlandref05_Paths.calls k t850 _ _ t851 _ _ t854 t877 _ ?side1 ?side2 ?side3 ?side4 A11.out).mono ?_); (case side1 => exact rc HO853); (case side2 => exact rs HO853); (case side3 => exact rc HO856); (case side4 => exact rs HO856); rintro e w35 ⟨v878, rfl, ho0, hb⟩; refine ⟨_, rfl, ?_⟩; (have n0_ := Aside0.mk (Kd.R_below (rn HO853) hb)); (have n1_ := Aside0.mk (Kd.R_below (rn HO856) hb)); (have n2_ := Aside0.mk (Kd.R_below (rn HO859) hb)); (have n3_ := Aside0.mk (Kd.R_below (rn HO863) hb)); (have n4_ := Aside0.mk (Kd.R_below (rn HO866) hb)); (have n5_ := Aside0.mk (Kd.S_elder' (sn HO869) (Kd.S_base ho0) hb)); (have n6_ := Aside0.mk (Kd.R_below (rn HO873) hb)); (have n7_ := Aside0.mk (Kd.R_below (rn HO876) hb)); (have n8_ := Aside0.mk (Kd.S_lower (Kd.S_new' (Kd.S_new' ho0 (Kd.S_lt (sn HO869))) (Kd.R_lt (rn HO876))) (below_size (bn1 HB GE849)))); (have n9_ := Aside0.mk (bkb BK849 hb)); (have n10_ := Aside0.mk (below_step (bn1 HB GE849) hb)); clear HO853; clear HO856; clear HO859; clear HO863; clear HO866; clear HO869; clear HO873; clear HO876; clear BK849; clear HB; (have HO853 := n0_); (have HO856 := n1_); (have HO859 := n2_); (have HO863 := n3_); (have HO866 := n4_); (have HO869 := n5_); (have HO873 := n6_); (have HO876 := n7_); (have HO879 := n8_); (have BK849 := n9_); (have HB := n10_); clear n0_ n1_ n2_ n3_ n4_ n5_ n6_ n7_ n8_ n9_ n10_; obtain ⟨Ao36, co36, eo36⟩ := Kd.S_slice HO879.out; (first | subst eo36 | (injection eo36 with f1_ f2_ f3_; have f4_ := f1_.symm; have f5_ := f3_.symm; clear f1_ f2_ f3_; subst f4_; subst f5_)); (refine hK.out _ _ ⟨(blk_cell BK849.out 0).trans rfl, (blk_cell BK849.out 1).trans rfl, (blk_cell BK849.out 2).trans rfl⟩ (fun hHeld => ?_)); clear hK K; refine norm_ (a' := ?_) ?_ ?_; rotate_left
   ·(show Act.put _ (some 20) _ = _); simp only [Act.put, List.setIfInBounds_toArray, List.set_cons_zero, List.set_cons_succ, i64_w, i32_w]; rfl
   (refine one_ (i := 9) (N := some 22) (mk_ 10 9) rfl rfl (one_of HT_.out (by kernel_rfl)) (by decide) (fun K hK => ?_)); refine goes_ Try.func44 (by kernel_rfl) rfl #[.slice Ao36 t877.length co36, .slice Ao30 t857.length co30] (by rfl) rfl rfl am_ ?_; (with_reducible refine (marchlandref06_Of.calls k _ _ t877 _ _ t857 t880 _ ?side1 ?side2 ?side3 ?side4 A12.out).mono ?_); (case side1 => repeat (first | exact (Kd.S_reads' HO879.out).2.2 | (with_reducible refine Kd.C_alloc ?_ _) | (with_reducible refine Kd.C_drewN ?_ _) | (with_reducible refine Kd.C_drew ?_))); (case side2 => exact (Kd.S_reads' HO879.out).2.1); (case side3 => exact rc HO859); (case side4 => exact rs HO859); rintro e w37 ⟨v881, rfl, ho0, hb⟩; refine ⟨_, rfl, ?_⟩; (have n0_ := Aside0.mk (Kd.R_below (rn HO853) hb)); (have n1_ := Aside0.mk (Kd.R_below (rn HO856) hb)); (have n2_ := Aside0.mk (Kd.R_below (rn HO859) hb)); (have n3_ := Aside0.mk (Kd.R_below (rn HO863) hb)); (have n4_ := Aside0.mk (Kd.R_below (rn HO866) hb)); (have n5_ := Aside0.mk (Kd.S_elder' (sn HO869) (Kd.R_base ho0) hb)); (have n6_ := Aside0.mk (Kd.R_below (rn HO873) hb)); (have n7_ := Aside0.mk (Kd.R_elder' (rn HO876) (Kd.R_base ho0) hb)); (have n8_ := Aside0.mk (Kd.S_elder' (sn HO879) (Kd.R_base ho0) hb)); (have n9_ := Aside0.mk (Kd.R_lower (Kd.R_new' ho0 (Kd.R_lt (rn HO876))) (below_size (bn1 HB GE849)))); (have n10_ := Aside0.mk (bkb BK849 hb)); (have n11_ := Aside0.mk (below_step (bn1 HB GE849) hb)); clear HO853; clear HO856; clear HO859; clear HO863; clear HO866; clear HO869; clear HO873; clear HO876; clear HO879; clear BK849; clear HB; (have HO853 := n0_); (have HO856 := n1_); (have HO859 := n2_); (have HO863 := n3_); (have HO866 := n4_); (have HO869 := n5_); (have HO873 := n6_); (have HO876 := n7_); (have HO879 := n8_); (have HO882 := n9_); (have BK849 := n10_); (have HB := n11_); clear n0_ n1_ n2_ n3_ n4_ n5_ n6_ n7_ n8_ n9_ n10_ n11_; obtain ⟨Ao38, co38, eo38⟩ := Kd.R_slice HO876.out; (first | subst eo38 | (injection eo38 with f1_ f2_ f3_; have f4_ := f1_.symm; have f5_ := f3_.symm; clear f1_ f2_ f3_; subst f4_; subst f5_)); obtain ⟨Ao39, co39, eo39⟩ := Kd.R_slice HO882.out; (first | subst eo39 | (injection eo39 with f1_ f2_ f3_; have f4_ := f1_.symm; have f5_ := f3_.symm; clear f1_ f2_ f3_; subst f4_; subst f5_)); (refine hK.out _ _ ⟨(blk_cell BK849.out 0).trans rfl, (blk_cell BK849.out 1).trans rfl, (blk_cell BK849.out 2).trans rfl⟩ (fun hHeld => ?_)); clear hK K; refine norm_ (a' := ?_) ?_ ?_; rotate_left
   ·(show Act.put _ (some 22) _ = _); simp only [Act.put, List.setIfInBounds_toArray, List.set_cons_zero, List.set_cons_succ, i64_w, i32_w]; rfl
   (refine one_ (i := 10) (N := some 23) (mk_ 11 8) rfl rfl (one_of HT_.out (by kernel_rfl)) (by decide) (fun K hK => ?_)); refine goes_ Try.func42 (by kernel_rfl) rfl #[.slice Ao38 t874.length co38, .slice Ao39 t880.length co39] (by rfl) rfl rfl am_ ?_; (with_reducible refine (marchlandref06_Same.calls k _ _ t874 _ _ t880 true _ ?side1 ?side2 ?side3 ?side4 A13.out).mono ?_); (case side1 => exact rc HO876); (case side2 => exact rs HO876); (case side3 => exact rc HO882); (case side4 => exact rs HO882); rintro e w' ⟨rfl, ⟨nd, rfl⟩⟩; refine ⟨_, rfl, ?_⟩; (refine hK.out _ _ ⟨(blk_cell BK849.out 0).trans rfl, (blk_cell BK849.out 1).trans rfl, (blk_cell BK849.out 2).trans rfl⟩ (fun hHeld => ?_)); clear hK K; refine norm_ (a' := ?_) ?_ ?_; rotate_left
   ·(show Act.put _ (some 23) _ = _); simp only [Act.put, List.setIfInBounds_toArray, List.set_cons_zero, List.set_cons_succ, i64_w, i32_w]; rfl
   refine pv_ 11 24 (mk_ 12 7) HT_ ?_; refine pv_ 12 25 (mk_ 13 6) HT_ ?_; refine pv_ 13 26 (mk_ 14 5) HT_ ?_; (refine tv_ 14 27 (mk_ 15 4) HT_ HW_ hHeld (hy := by rintro w' ⟨s0, s1, s2⟩; go_simp; with_reducible rfl) (h := ?_)); (refine one_ (i := 15) (N := some 28) (mk_ 16 3) rfl rfl (one_of HT_.out (by kernel_rfl)) (by decide) (fun K hK => ?_)); refine goes_ Try.func45 (by kernel_rfl) rfl #[.agg #[.int .i64 t850, .slice Ao22 t851.length co22, .slice Ao23 t854.length co23]] (by rfl) rfl rfl am_ ?_; (with_reducible refine (marchlandref05_Paths.calls k t850 _ _ t851 _ _ t854 t884 _ ?side1 ?side2 ?side3 ?side4 A15.out).mono ?_); (case side1 => exact rc HO853); (case side2 => exact rs HO853); (case side3 => exact rc HO856); (case side4 => exact rs HO856); rintro e w40 ⟨v885, rfl, ho0, hb⟩; refine ⟨_, rfl, ?_⟩; (have n0_ := Aside0.mk (Kd.R_below (rn HO853) hb)); (have n1_ := Aside0.mk (Kd.R_below (rn HO856) hb)); (have n2_ := Aside0.mk (Kd.R_below (rn HO859) hb)); (have n3_ := Aside0.mk (Kd.R_below (rn HO863) hb)); (have n4_ := Aside0.mk (Kd.R_below (rn HO866) hb)); (have n5_ := Aside0.mk (Kd.S_elder' (sn HO869) (Kd.S_base ho0) hb)); (have n6_ := Aside0.mk (Kd.R_below (rn HO873) hb)); (have n7_ := Aside0.mk (Kd.R_below (rn HO876) hb)); (have n8_ := Aside0.mk (Kd.S_elder' (sn HO879) (Kd.S_base ho0) hb)); (have n9_ := Aside0.mk (Kd.R_below (rn HO882) hb)); (have n10_ := Aside0.mk (Kd.S_lower (Kd.S_new' (Kd.S_new' (Kd.S_new' (Kd.S_new' ho0 (Kd.S_lt (sn HO869))) (Kd.R_lt (rn HO876))) (Kd.S_lt (sn HO879))) (Kd.R_lt (rn HO882))) (below_size (bn1 HB GE849)))); (have n11_ := Aside0.mk (bkb BK849 hb)); (have n12_ := Aside0.mk (below_step (bn1 HB GE849) hb)); clear HO853; clear HO856; clear HO859; clear HO863; clear HO866; clear HO869; clear HO873; clear HO876; clear HO879; clear HO882; clear BK849; clear HB; (have HO853 := n0_); (have HO856 := n1_); (have HO859 := n2_); (have HO863 := n3_); (have HO866 := n4_); (have HO869 := n5_); (have HO873 := n6_); (have HO876 := n7_); (have HO879 := n8_); (have HO882 := n9_); (have HO886 := n10_); (have BK849 := n11_); (have HB := n12_); clear n0_ n1_ n2_ n3_ n4_ n5_ n6_ n7_ n8_ n9_ n10_ n11_ n12_; obtain ⟨Ao41, co41, eo41⟩ := Kd.S_slice HO886.out; (first | subst eo41 | (injection eo41 with f1_ f2_ f3_; have f4_ := f1_.symm; have f5_ := f3_.symm; clear f1_ f2_ f3_; subst f4_; subst f5_)); (refine hK.out _ _ ⟨(blk_cell BK849.out 0).trans rfl, (blk_cell BK849.out 1).trans rfl, (blk_cell BK849.out 2).trans rfl⟩ (fun hHeld => ?_)); clear hK K; refine norm_ (a' := ?_) ?_ ?_; rotate_left
   ·(show Act.put _ (some 28) _ = _); simp only [Act.put, List.setIfInBounds_toArray, List.set_cons_zero, List.set_cons_succ, i64_w, i32_w]; rfl
   (refine one_ (i := 16) (N := some 29) (mk_ 17 2) rfl rfl (one_of HT_.out (by kernel_rfl)) (by decide) (fun K hK => ?_)); refine goes_ Try.func46 (by kernel_rfl) rfl #[.slice Ao32 t867.length co32, .slice Ao41 t884.length co41] (by rfl) rfl rfl am_ ?_; (with_reducible refine (marchlandlaw05_Rows.calls k _ _ t867 _ _ t884 t887 _ ?side1 ?side2 ?side3 ?side4 A16.out).mono ?_); (case side1 => repeat (first | exact (Kd.S_reads' HO869.out).2.2 | (with_reducible refine Kd.C_alloc ?_ _) | (with_reducible refine Kd.C_drewN ?_ _) | (with_reducible refine Kd.C_drew ?_))); (case side2 => exact (Kd.S_reads' HO869.out).2.1); (case side3 => repeat (first | exact (Kd.S_reads' HO886.out).2.2 | (with_reducible refine Kd.C_alloc ?_ _) | (with_reducible refine Kd.C_drewN ?_ _) | (with_reducible refine Kd.C_drew ?_))); (case side4 => exact (Kd.S_reads' HO886.out).2.1); rintro e w' ⟨rfl, ⟨nd, rfl⟩⟩; refine ⟨_, rfl, ?_⟩; (refine hK.out _ _ ⟨(blk_cell BK849.out 0).trans rfl, (blk_cell BK849.out 1).trans rfl, (blk_cell BK849.out 2).trans rfl⟩ (fun hHeld => ?_)); clear hK K; refine norm_ (a' := ?_) ?_ ?_; rotate_left
   ·(show Act.put _ (some 29) _ = _); simp only [Act.put, List.setIfInBounds_toArray, List.set_cons_zero, List.set_cons_succ, i64_w, i32_w]; rfl
   refine pv_ 17 30 (mk_ 18 1) HT_ ?_; refine pv_ 18 4 (mk_ 19 0) HT_ ?_; refine done_ (done_of HT_.out (by kernel_rfl)) ?_; (try go_wp2); go_ret; (exact ⟨by first | rfl | (simp [errW_none, errW_some] <;> rfl) | (simp [*, errW_none, errW_some] <;> rfl), bn1 HB GE849⟩)
  ·(replace c14 := Bool.eq_false_iff.mpr c14); subst c14; (have H1 : (some false) = some r := by rw [if_neg (show ¬ (false = true) by decide)] at H; exact H); clear H; (have H := H1); clear H1; (subst hT; cases H)
 ·(replace c8 := Bool.eq_false_iff.mpr c8); subst c8; (have H1 : (some false) = some r := by rw [if_neg (show ¬ (false = true) by decide)] at H; exact H); clear H; (have H := H1); clear H1; (subst hT; cases H)
open Go.ChangeShapes Go.WideShapes Go.Deep
def Opens (P : Program) (t : TypeId) {α : Type} (d : Kd α) (q : α → Prop) : Prop :=
 ∀ (H : Type) (enc : TypeId × Value → H) (w : World) (base : Nat) (spare : Nat → Bool) (held : Bool) (fuel : Nat) (cs : List Value) (x : DataW H × List MemPlace),
  DataW.trod enc P w base spare held fuel t cs = some x → ∃ y : α, d.K w y cs ∧ q y
theorem Opens.int {P : Program} {t : TypeId} {k : IntKind} (hu : P.underlying t = some (.int k)) : Opens P t (Kd.int k) (fun n => (Lit.int k n).wf = true) := by
 intro H enc w base spare held fuel cs x h
 obtain ⟨n, rfl, _, hw⟩ := DataW.trod_int hu h
 exact ⟨n, rfl, hw⟩
theorem Opens.bool {P : Program} {t : TypeId} (hu : P.underlying t = some .bool) : Opens P t Kd.bool (fun _ => True) := by
 intro H enc w base spare held fuel cs x h
 obtain ⟨b, rfl, _⟩ := DataW.trod_bool hu h
 exact ⟨b, rfl, trivial⟩
theorem Opens.string {P : Program} {t : TypeId} (hu : P.underlying t = some .string) : Opens P t Kd.string (fun s => s.size ≤ maxLen) := by
 intro H enc w base spare held fuel cs x h
 obtain ⟨s, rfl, _, hs⟩ := DataW.trod_string hu h
 exact ⟨s, rfl, hs⟩
theorem Opens.imp {P : Program} {t : TypeId} {α : Type} {d : Kd α} {q q' : α → Prop} (h : Opens P t d q) (hq : ∀ y, q y → q' y) : Opens P t d q' := by
 intro H enc w base spare held fuel cs x hx
 obtain ⟨y, h1, h2⟩ := h H enc w base spare held fuel cs x hx
 exact ⟨y, h1, hq y h2⟩
theorem Opens.iso {P : Program} {t : TypeId} {α β : Type} {d : Kd α} {q : α → Prop} (h : Opens P t d q) (f : β → α) (g : α → β) (hfg : ∀ y, f (g y) = y) : Opens P t (Kd.iso d f) (fun x => q (f x)) := by
 intro H enc w base spare held fuel cs x hx
 obtain ⟨y, h1, h2⟩ := h H enc w base spare held fuel cs x hx
 refine ⟨g y, ?_, by show q (f (g y)); rw [hfg]; exact h2⟩
 show d.K w (f (g y)) cs
 rw [hfg]; exact h1
theorem Opens.slice {P : Program} {t e : TypeId} {α : Type} [Inhabited α] {d : Kd α} {q : α → Prop} (hu : P.underlying t = some (.slice e)) (hc : P.cellsOf e = d.sz) (h : Opens P e d q) : Opens P t (Kd.slice e d) (fun l => l.length ≤ maxLen ∧ ∀ y ∈ l, q y) := by
 intro H enc w base spare held fuel cs x hx
 rcases open_slice hu hx with ⟨rfl, _⟩ | ⟨a, len, cap, m, n, D, Pl, rfl, hb, hl, hm, hmm, _, hel⟩
 ·exact ⟨[], ⟨none, 0, rfl, Nat.le_refl _, rfl, Nat.zero_le _, fun h => absurd h (by simp)⟩, Nat.zero_le _, fun y hy => by simp at hy⟩
 ·have hlm : len ≤ m := by rw [hmm]; split <;> omega
  obtain ⟨Y, hY⟩ := choose_lt (α := α) (n := len) (p := fun i y => ∃ cs', w.cells? base (a.add (i * P.cellsOf e)) (P.cellsOf e) = some cs' ∧ d.K w y cs' ∧ q y) (fun i hi => by
   obtain ⟨cs', h1, h2⟩ := hel i (by omega)
   obtain ⟨y, h3, h4⟩ := h H enc w base spare held n cs' _ h2
   exact ⟨y, cs', h1, h3, h4⟩)
  have hlen : ((List.range len).map Y).length = len := by simp
  refine ⟨(List.range len).map Y, ⟨some a, cap, by rw [hlen], by rw [hlen]; exact hl, rfl, ?_, fun _ => ⟨a, rfl, fun j p hj => ?_⟩⟩, ?_, fun y hy => ?_⟩
  ·rw [hlen]; unfold maxLen at hm; omega
  ·obtain ⟨hjl, hje⟩ := List.getElem?_eq_some_iff.1 hj
   rw [hlen] at hjl
   have hpj : p = Y j := by rw [← hje]; simp
   obtain ⟨cs', h1, h3, _⟩ := hY j hjl
   obtain ⟨_, hcl, hcc⟩ := World.cells?_some h1
   refine ⟨cs', d.K_len h3, by rw [hpj]; exact h3, fun i u hu2 => ?_⟩
   have hi := (List.getElem?_eq_some_iff.1 hu2).1
   rw [d.K_len h3] at hi
   have h5 := hcc i (by rw [hc]; exact hi)
   rw [hc, Go.Deep.add_add] at h5
   rw [h5, ← hu2]
  ·rw [hlen]; omega
  ·obtain ⟨j, hj, rfl⟩ := List.mem_map.1 hy
   obtain ⟨_, _, _, h4⟩ := hY j (List.mem_range.1 hj)
   exact h4
def OpensSeg (P : Program) (fs : List Field) (off : Nat) {α : Type} (d : Kd α) (q : α → Prop) : Prop :=
 ∀ (H : Type) (enc : TypeId × Value → H) (w : World) (base : Nat) (spare : Nat → Bool) (held : Bool) (fuel : Nat) (cs : List Value), cs.length = d.sz →
  (∀ f ∈ fs, ∃ x : DataW H × List MemPlace, DataW.trod enc P w base spare held fuel f.type ((cs.drop (f.offset - off)).take (P.cellsOf f.type)) = some x) → ∃ y : α, d.K w y cs ∧ q y
theorem OpensSeg.one {P : Program} {f : Field} {off : Nat} {α : Type} {d : Kd α} {q : α → Prop} (ho : f.offset = off) (hc : P.cellsOf f.type = d.sz) (h : Opens P f.type d q) : OpensSeg P [f] off d q := by
 intro H enc w base spare held fuel cs hl hf
 obtain ⟨x, hx⟩ := hf f List.mem_cons_self
 rw [ho, Nat.sub_self, List.drop_zero, hc, ← hl, List.take_length] at hx
 exact h H enc w base spare held fuel cs x hx
theorem OpensSeg.cons {P : Program} {f : Field} {fs : List Field} {off : Nat} {α β : Type} {d : Kd α} {d2 : Kd β} {q : α → Prop} {q2 : β → Prop} (ho : f.offset = off) (hc : P.cellsOf f.type = d.sz) (hm : ∀ g ∈ fs, off + d.sz ≤ g.offset) (h : Opens P f.type d q) (h2 : OpensSeg P fs (off + d.sz) d2 q2) :
  OpensSeg P (f :: fs) off (Kd.pair d d2) (fun y => q y.1 ∧ q2 y.2) := by
 intro H enc w base spare held fuel cs hl hf
 have hl' : cs.length = d.sz + d2.sz := hl
 obtain ⟨x, hx⟩ := hf f List.mem_cons_self
 rw [ho, Nat.sub_self, List.drop_zero, hc] at hx
 obtain ⟨y, h3, h4⟩ := h H enc w base spare held fuel _ x hx
 obtain ⟨y2, h5, h6⟩ := h2 H enc w base spare held fuel (cs.drop d.sz) (by rw [List.length_drop]; omega) (fun g hg => by
  obtain ⟨x2, hx2⟩ := hf g (List.mem_cons_of_mem _ hg)
  refine ⟨x2, ?_⟩
  have := hm g hg
  rw [List.drop_drop, show d.sz + (g.offset - (off + d.sz)) = g.offset - off by omega]
  exact hx2)
 exact ⟨(y, y2), ⟨cs.take d.sz, cs.drop d.sz, (List.take_append_drop _ _).symm, h3, h5⟩, h4, h6⟩
theorem Opens.struct {P : Program} {t : TypeId} {fs : Array Field} {α : Type} {d : Kd α} {q : α → Prop} (hu : P.underlying t = some (.struct fs)) (hc : P.cellsOf t = d.sz) (h : OpensSeg P fs.toList 0 d q) : Opens P t d q := by
 intro H enc w base spare held fuel cs x hx
 obtain ⟨xs, n, rfl, _, hl, hxs, hf⟩ := DataW.trod_struct hu hx
 refine h H enc w base spare held n cs (by rw [hl, hc]) (fun f hf2 => ?_)
 obtain ⟨i, hi, rfl⟩ := List.getElem_of_mem hf2
 have h1 := hf i fs.toList[i] (by rw [Array.getElem?_eq_getElem (by simpa using hi)]; simp)
 have hi2 : i < fs.size := by simpa using hi
 rw [List.getElem?_eq_getElem (by omega)] at h1
 exact ⟨_, by rw [Nat.sub_zero]; exact h1⟩
theorem Opens.arg {P : Program} {t e : TypeId} {α : Type} {d : Kd α} {q : List α → Prop} (ho : Opens P t (Kd.slice e d) q) {H : Type} {enc : TypeId × Value → H} {w : World} {base : Nat} {spare : Nat → Bool} {held : Bool} {a : Option Addr} {len cap : Nat} {D : DataW H} {ps : List MemPlace} (h : DataW.Trod enc P w base spare held t (.slice a len cap) D ps) :
  ∃ l : List α, len = l.length ∧ Kd.C d w a l.length l ∧ l.length ≤ cap ∧ q l := by
 obtain ⟨fuel, hf⟩ := h
 obtain ⟨l, ⟨A, c, he, hlc, hC⟩, hq⟩ := ho H enc w base spare held fuel _ _ hf
 simp [Value.cells] at he
 obtain ⟨rfl, rfl, rfl⟩ := he
 exact ⟨l, rfl, hC, hlc, hq⟩
theorem sized_slice_any {H : Type} {enc : TypeId × Value → H} {P : Program} {W : World} {base : Nat} {spare : Nat → Bool} {held : Bool} {t e : TypeId} {a : Option Addr} {len cap : Nat} {d : DataW H} {ps : List MemPlace} {ts : List TypeId} {ds : List (DataW H)} {j : Nat}
  (hsz : (DataW.weightsEach P ts ds).all (· ≤ reachBytes) = true) (ht : ts[j]? = some t) (hd : ds[j]? = some d) (hu : P.underlying t = some (.slice e)) {B : Nat} (hB : P.bytesOf e = B)
  (h : DataW.Trod enc P W base spare held t (.slice a len cap) d ps) : len * B ≤ 140737488351232 := by
 obtain ⟨fuel, hf⟩ := h
 rcases open_slice hu hf with ⟨hcs, _⟩ | ⟨x, l, c, m, n, D, Pl, hcs, _, hl, _, hm, hx, _⟩
 ·simp [Value.cells] at hcs
  obtain ⟨rfl, rfl, rfl⟩ := hcs
  simp
 ·simp [Value.cells] at hcs
  obtain ⟨rfl, rfl, rfl⟩ := hcs
  obtain ⟨hx, _⟩ := Prod.mk.inj hx
  subst hx
  have z := sized_slice hsz ht hd hu
  rw [hB] at z
  have h1 : len ≤ ((List.range len).map D).length + ((List.range (m - len)).map fun j => D (len + j)).length := by simp
  exact Nat.le_trans (Nat.mul_le_mul_right _ h1) z
def wfC (x : S40) : Prop := (-9223372036854775808 ≤ x.f0 ∧ x.f0 ≤ 9223372036854775807) ∧ (0 ≤ x.f1 ∧ x.f1 ≤ 18446744073709551615) ∧ (-9223372036854775808 ≤ x.f2 ∧ x.f2 ≤ 9223372036854775807)
instance : Inhabited S40 := ⟨z40⟩
theorem opens_i64 {P : Program} {t : TypeId} (hu : P.underlying t = some (.int .i64)) : Opens P t (Kd.int .i64) (fun n => -9223372036854775808 ≤ n ∧ n ≤ 9223372036854775807) := (Opens.int hu).imp fun _ h => bounds_i64 h
theorem opens_u64 {P : Program} {t : TypeId} (hu : P.underlying t = some (.int .u64)) : Opens P t (Kd.int .u64) (fun n => 0 ≤ n ∧ n ≤ 18446744073709551615) := (Opens.int hu).imp fun _ h => bounds_u64 h
theorem opens40 : Opens Try.prog 40 k40 wfC :=
 Opens.iso (Opens.struct (d := Kd.pair (Kd.int .i64) (Kd.pair (Kd.int .u64) (Kd.int .i64))) Try.underlying40 (by kernel_rfl)
  (OpensSeg.cons rfl (by kernel_rfl) (by decide) (opens_i64 Try.underlying3) (OpensSeg.cons rfl (by kernel_rfl) (by decide) (opens_u64 Try.underlying38) (OpensSeg.one rfl (by kernel_rfl) (opens_i64 Try.underlying2)))))
  (fun x : S40 => (x.f0, x.f1, x.f2)) (fun y => ⟨y.1, y.2.1, y.2.2⟩) (fun _ => rfl)
theorem opens22 : Opens Try.prog 22 (Kd.slice 40 k40) (fun l => l.length ≤ maxLen ∧ ∀ y ∈ l, wfC y) := Opens.slice Try.underlying22 (by kernel_rfl) opens40
instance : Inhabited S90 := ⟨z90⟩
theorem opens90 : Opens Try.prog 90 k90 (fun x => 0 ≤ x.f2 ∧ x.f2 ≤ 18446744073709551615) :=
 (Opens.iso (Opens.struct (d := Kd.pair (Kd.int .i64) (Kd.pair (Kd.int .i64) (Kd.int .u64))) Try.underlying90 (by kernel_rfl)
  (OpensSeg.cons rfl (by kernel_rfl) (by decide) (opens_i64 Try.underlying3) (OpensSeg.cons rfl (by kernel_rfl) (by decide) (opens_i64 Try.underlying3) (OpensSeg.one rfl (by kernel_rfl) (opens_u64 Try.underlying38)))))
  (fun x : S90 => (x.f0, x.f1, x.f2)) (fun y => ⟨y.1, y.2.1, y.2.2⟩) (fun _ => rfl)).imp fun _ h => h.2.2
theorem opens58 : Opens Try.prog 58 (Kd.pair (Kd.int .i64) (Kd.pair (Kd.slice 90 k90) (Kd.slice 3 (Kd.int .i64)))) (fun y => ∀ x ∈ y.2.1, 0 ≤ x.f2 ∧ x.f2 ≤ 18446744073709551615) :=
 (Opens.struct Try.underlying58 (by kernel_rfl) (OpensSeg.cons rfl (by kernel_rfl) (by decide) (opens_i64 Try.underlying3) (OpensSeg.cons rfl (by kernel_rfl) (by decide) (Opens.slice Try.underlying55 (by kernel_rfl) opens90) (OpensSeg.one rfl (by kernel_rfl) (Opens.slice Try.underlying56 (by kernel_rfl) (opens_i64 Try.underlying3)))))).imp fun _ h => h.2.1.2
set_option maxRecDepth 100000 in
theorem open58 {H : Type} {enc : TypeId × Value → H} {w : World} {base : Nat} {spare : Nat → Bool} {held : Bool}
  {r : Reach} {b0 : Nat} {v : Value} {d : DataW H} {p : List MemPlace} (hv : Value.okWide Try.prog w r b0 58 v) (h : DataW.Trod enc Try.prog w base spare held 58 v d p) :
  ∃ (a0 : Int) (A1 : Option Addr) (c1 : Nat) (l1 : List S90) (A2 : Option Addr) (c2 : Nat) (l2 : List Int), v = .agg #[.int .i64 a0, .slice A1 l1.length c1, .slice A2 l2.length c2] ∧ Kd.C k90 w A1 l1.length l1 ∧ l1.length ≤ c1 ∧ (∀ y ∈ l1, 0 ≤ y.f2 ∧ y.f2 ≤ 18446744073709551615) ∧ Kd.C (Kd.int .i64) w A2 l2.length l2 ∧ l2.length ≤ c2 := by
 obtain ⟨cs, rfl⟩ : ∃ cs : Array Value, v = .agg cs := by
  simp only [Value.okWide, Try.underlying58] at hv
  obtain ⟨cs, h1, _⟩ := hv
  exact ⟨cs, h1⟩
 obtain ⟨fuel, hf⟩ := h
 obtain ⟨⟨a0, l1, l2⟩, hK, hq⟩ := opens58 H enc w base spare held fuel _ _ hf
 obtain ⟨s0, s1, e0, h0, t0, t1, e1, ⟨A1, c1, h1, hc1, hC1⟩, ⟨A2, c2, h2, hc2, hC2⟩⟩ := hK
 have h0 : s0 = [.int .i64 a0] := h0
 subst h0 h1 h2 e1
 refine ⟨a0, A1, c1, l1, A2, c2, l2, ?_, hC1, hc1, hq, hC2, hc2⟩
 have e0 : cs.toList = _ := e0
 congr 1
 apply Array.toList_inj.1
 rw [e0]; rfl
theorem eqA40 (d : Nat) (w : World) (x0 y0 : Int) (x1 y1 : Int) (x2 y2 : Int) :
  (Op.equalIn (d + 2) 40 (.agg #[.int .i64 x0, .int .u64 x1, .int .i64 x2]) (.agg #[.int .i64 y0, .int .u64 y1, .int .i64 y2])).run Try.prog w = .ok (x0 == y0 && (x1 == y1 && (x2 == y2))) w := by
 refine eqA_of Try.underlying40 (by kernel_rfl) ?_; (refine eqf_cons (by rfl) (by go_simp; rfl) (by go_simp; rfl) (by go_simp) ?_); (refine eqf_cons (by rfl) (by go_simp; rfl) (by go_simp; rfl) (by go_simp) ?_); (exact eqf_last (by rfl) (by go_simp; rfl) (by go_simp; rfl) (by go_simp))
end Go.Proofs.Ytgeldmhgbnamcaa.P
end
section
namespace Go.Proofs.Ytgeldmhgbnamcaa.Pure
open Go.RowKit Go.Proofs.Ytgeldmhgbnamcaa.P Go.Proofs.YtgeldmhgbnamcaaW.PrintWords Go.Proofs.YtgeldmhgbnamcaaW.PrintLast
set_option linter.unusedVariables false
set_option linter.unusedSimpArgs false
abbrev Short (n : Nat) : Prop := n ≤ 5864062014634
theorem w64s {n : Nat} (h : n ≤ 9000000000000000000) : wrap64 ((n : Int) + 1) = ((n + 1 : Nat) : Int) := by unfold wrap64; omega
theorem w64p {n : Nat} (h : n ≤ 9000000000000000000) : wrap64 (((n + 1 : Nat) : Int) - 1) = (n : Int) := by unfold wrap64; omega
theorem rd4 (p : List S40) (x : S40) (q : List S40) {i : Int} (h : i = p.length) : rd_T40 (p ++ x :: q) i = x := by subst h; simp [rd_T40]
theorem rd5 (p : List S50) (x : S50) (q : List S50) {i : Int} (h : i = p.length) : rd_T50 (p ++ x :: q) i = x := by subst h; simp [rd_T50]
theorem Ev.id {α : Type} {g f : Nat → Option α} {r : α} (k : Ev f r) (h : ∀ k, f k = g k) : Ev g r := Ev.congr (fun k => (h k).symm) k
def u (x : S40) : S50 := ⟨x.f0, x.f1, x.f2⟩
def v (x : S50) : S40 := ⟨x.f0, x.f1, x.f2⟩
def kl (a b : S50) : Prop := a.f0 < b.f0 ∨ (a.f0 = b.f0 ∧ a.f1 < b.f1)
def ke (a b : S50) : Prop := a.f0 = b.f0 ∧ a.f1 = b.f1
instance (a b : S50) : Decidable (kl a b) := by unfold kl; exact inferInstance
instance (a b : S50) : Decidable (ke a b) := by unfold ke; exact inferInstance
theorem kl_trans {a b c : S50} (h : kl a b) (k : kl b c) : kl a c := by unfold kl at *; omega
theorem kl_tri (a b : S50) : kl a b ∨ ke a b ∨ kl b a := by unfold kl ke; omega
def wi (n : Int) : Prop := -576460752303423488 ≤ n ∧ n ≤ 576460752303423488
instance (n : Int) : Decidable (wi n) := by unfold wi; exact inferInstance
theorem within3_eq (n : Int) : marchlandref03_within.f n = some (decide (wi n)) := by
 unfold marchlandref03_within.f wi
 by_cases h : n ≥ -576460752303423488
 ·rw [if_pos h]; simp [h]
 ·rw [if_neg h]; simp [h]
theorem before_eq (a b : S50) : marchlandref03_before.f a.f0 a.f1 a.f2 b.f0 b.f1 b.f2 = some (decide (kl a b)) := by
 unfold marchlandref03_before.f kl
 by_cases h : a.f0 < b.f0
 ·rw [if_pos h]; simp [h]
 ·rw [if_neg h]
  by_cases h2 : a.f0 = b.f0
  ·rw [if_pos h2]; simp [h2]
  ·rw [if_neg h2]; simp [h, h2]
def wrongv (x : S50) : Int := if x.f0 < 0 ∨ x.f0 ≥ 64 then 2 else if x.f1 = 18446744073709551615 then 1 else if wi x.f2 then 0 else 10
def plus (y x : S50) : S50 := ⟨y.f0, y.f1, wrap64 (y.f2 + x.f2)⟩
def ins (x : S50) : List S50 → List S50
 | [] => [x]
 | y :: l => if ke y x then plus y x :: l else if kl x y then x :: y :: l else y :: ins x l
def tot (l : List S50) : List S50 := l.foldl (fun a x => ins x a) []
theorem ins_app {x : S50} : ∀ {A : List S50} (B : List S50), (∀ a ∈ A, kl a x) → ins x (A ++ B) = A ++ ins x B := by
 intro A
 induction A with
 | nil => intro B _; rfl
 | cons a A ih =>
  intro B h
  have h1 : kl a x := h a (by simp)
  have a1 : ¬ ke a x := by unfold kl ke at *; omega
  have a2 : ¬ kl x a := by unfold kl at *; omega
  simp [ins, a1, a2, ih B (fun b hb => h b (by simp [hb]))]
abbrev Str (l : List S50) : Prop := l.Pairwise kl
theorem ins_mem {x : S50} : ∀ {l : List S50} {z : S50}, z ∈ ins x l → ke z x ∨ ∃ y ∈ l, ke z y := by
 intro l
 induction l with
 | nil => intro z h; simp only [ins, List.mem_singleton] at h; subst h; exact .inl ⟨rfl, rfl⟩
 | cons y l ih =>
  intro z h
  simp only [ins] at h
  split at h
  ·rcases List.mem_cons.1 h with rfl | h
   ·exact .inr ⟨y, by simp, rfl, rfl⟩
   ·exact .inr ⟨z, by simp [h], rfl, rfl⟩
  ·split at h
   ·rcases List.mem_cons.1 h with rfl | h
    ·exact .inl ⟨rfl, rfl⟩
    ·exact .inr ⟨z, h, rfl, rfl⟩
   ·rcases List.mem_cons.1 h with rfl | h
    ·exact .inr ⟨z, by simp, rfl, rfl⟩
    ·rcases ih h with h | ⟨w, hw, h⟩
     ·exact .inl h
     ·exact .inr ⟨w, by simp [hw], h⟩
theorem ins_str {x : S50} : ∀ {l : List S50}, Str l → Str (ins x l) := by
 intro l
 induction l with
 | nil => intro _; simp [ins]
 | cons y l ih =>
  intro h
  obtain ⟨h1, h2⟩ := List.pairwise_cons.1 h
  simp only [ins]
  split
  ·exact List.pairwise_cons.2 ⟨fun z hz => h1 z hz, h2⟩
  ·rename_i e
   split
   ·rename_i c
    refine List.pairwise_cons.2 ⟨fun z hz => ?_, h⟩
    rcases List.mem_cons.1 hz with rfl | hz
    ·exact c
    ·exact kl_trans c (h1 z hz)
   ·rename_i c
    refine List.pairwise_cons.2 ⟨fun z hz => ?_, ih h2⟩
    rcases ins_mem hz with k | ⟨w, hw, k⟩
    ·have := kl_tri x y; unfold kl ke at *; omega
    ·have := h1 w hw; unfold kl ke at *; omega
theorem foldl_ins_str : ∀ (l a : List S50), Str a → Str (l.foldl (fun a x => ins x a) a) := by
 intro l
 induction l with
 | nil => intro a h; exact h
 | cons x l ih => intro a h; exact ih _ (ins_str h)
theorem tot_str (l : List S50) : Str (tot l) := foldl_ins_str l [] List.Pairwise.nil
theorem foldl_ins_mem : ∀ (l a : List S50) {z : S50}, z ∈ l.foldl (fun a x => ins x a) a → (∃ y ∈ l, ke z y) ∨ ∃ y ∈ a, ke z y := by
 intro l
 induction l with
 | nil => intro a z h; exact .inr ⟨z, h, rfl, rfl⟩
 | cons x l ih =>
  intro a z h
  rcases ih _ h with ⟨y, hy, k⟩ | ⟨y, hy, k⟩
  ·exact .inl ⟨y, by simp [hy], k⟩
  ·rcases ins_mem hy with j | ⟨w, hw, j⟩
   ·exact .inl ⟨x, by simp, k.1.trans j.1, k.2.trans j.2⟩
   ·exact .inr ⟨w, hw, k.1.trans j.1, k.2.trans j.2⟩
theorem tot_mem {l : List S50} {z : S50} (h : z ∈ tot l) : ∃ y ∈ l, ke z y := by
 rcases foldl_ins_mem l [] h with h | ⟨y, hy, _⟩
 ·exact h
 ·cases hy
theorem ins_len {x : S50} : ∀ {l : List S50}, (ins x l).length ≤ l.length + 1 := by
 intro l
 induction l with
 | nil => simp [ins]
 | cons y l ih => simp only [ins]; split <;> (try split) <;> simp <;> omega
theorem foldl_ins_len : ∀ (l a : List S50), (l.foldl (fun a x => ins x a) a).length ≤ a.length + l.length := by
 intro l
 induction l with
 | nil => intro a; simp
 | cons x l ih => intro a; have := ih (ins x a); have := ins_len (x := x) (l := a); simp only [List.foldl_cons, List.length_cons]; omega
theorem tot_len (l : List S50) : (tot l).length ≤ l.length := by have := foldl_ins_len l []; simpa [tot] using this
def good (G : List S50) : Bool := G.all (fun x => decide (wi x.f2))
def fin (G : List S50) : List S50 := G.filter (fun x => decide (x.f2 ≠ 0))
end Go.Proofs.Ytgeldmhgbnamcaa.Pure
end
section
set_option linter.unusedVariables false
namespace Go.Proofs.Ytgeldmhgbnamcaa.Pure.FW
def N : Int := 18446744073709551615
def pl (t s : Int) : Int := if N ≤ t + s then N else t + s
def In (x : Int) : Prop := 0 ≤ x ∧ x ≤ N
theorem pl_in {a b : Int} (ha : In a) (hb : In b) : In (pl a b) := by unfold In pl N at *; split <;> omega
theorem pl_zero {a : Int} (ha : In a) : pl a 0 = a := by unfold In pl N at *; split <;> omega
theorem zero_pl {a : Int} (ha : In a) : pl 0 a = a := by unfold In pl N at *; split <;> omega
theorem pl_mono {a b c d : Int} (h : a ≤ b) (h' : c ≤ d) : pl a c ≤ pl b d := by unfold pl N; split <;> split <;> omega
theorem pl_assoc {a b c : Int} (ha : In a) (hb : In b) (hc : In c) : pl (pl a b) c = pl a (pl b c) := by unfold In pl N at *; repeat' split <;> omega
theorem le_pl {a b : Int} (ha : In a) (hb : In b) : a ≤ pl a b := by unfold In pl N at *; split <;> omega
theorem le_pl' {a b : Int} (ha : In a) (hb : In b) : b ≤ pl a b := by unfold In pl N at *; split <;> omega
theorem in_zero : In 0 := by unfold In N; omega
theorem in_N : In N := by unfold In N; omega
structure Ed where
 f : Nat
 t : Nat
 a : Int
def EOk (n : Nat) (E : List Ed) : Prop := ∀ e ∈ E, e.f < n ∧ e.t < n ∧ In e.a
def D0 (i j : Nat) : Int := if i = j then 0 else N
theorem d0_in (i j : Nat) : In (D0 i j) := by unfold D0; split; exact in_zero; exact in_N
structure Pot (n : Nat) (E : List Ed) (y : Nat → Int) : Prop where
 inn : ∀ v, v < n → In (y v)
 edge : ∀ e ∈ E, y e.t ≤ pl (y e.f) e.a
abbrev Mat := Nat → Nat → Int
def addE (M : Mat) (e : Ed) : Mat := fun i j => if e.f ≠ e.t ∧ i = e.f ∧ j = e.t then min (M i j) e.a else M i j
def fw (M : Mat) (k : Nat) : Mat := fun i j => min (M i j) (pl (M i k) (M k j))
def wk (E : List Ed) : Nat → Mat
 | 0 => E.foldl addE D0
 | k + 1 => fw (wk E k) k
structure Good (n : Nat) (E : List Ed) (M : Mat) : Prop where
 inn : ∀ i j, i < n → j < n → In (M i j)
 diag : ∀ i, i < n → M i i = 0
 pot : ∀ y, Pot n E y → ∀ i j, i < n → j < n → y j ≤ pl (y i) (M i j)
theorem good_d0 (n : Nat) (E : List Ed) : Good n E D0 := by
 refine ⟨fun i j _ _ => d0_in i j, fun i _ => by simp [D0], fun y hy i j hi hj => ?_⟩
 unfold D0
 by_cases c : i = j
 ·subst c; rw [if_pos rfl, pl_zero (hy.inn i hi)]; exact Int.le_refl _
 ·rw [if_neg c]
  have := hy.inn i hi; have := hy.inn j hj
  exact Int.le_trans (hy.inn j hj).2 (le_pl' (hy.inn i hi) in_N)
theorem good_addE {n : Nat} {E : List Ed} (hE : EOk n E) {M : Mat} (h : Good n E M) {e : Ed} (he : e ∈ E) : Good n E (addE M e) := by
 obtain ⟨e1, e2, e3⟩ := hE e he
 refine ⟨fun i j hi hj => ?_, fun i hi => ?_, fun y hy i j hi hj => ?_⟩
 ·unfold addE; have := h.inn i j hi hj; unfold In at *; split <;> omega
 ·unfold addE; rw [if_neg (by rintro ⟨a, b, c⟩; exact a (b.symm.trans c))]; exact h.diag i hi
 ·unfold addE
  have h1 := h.pot y hy i j hi hj
  split
  next c =>
   obtain ⟨_, rfl, rfl⟩ := c
   have h2 := hy.edge e he
   rcases Int.le_total (M e.f e.t) e.a with q | q
   ·rw [Int.min_eq_left q]; exact h1
   ·rw [Int.min_eq_right q]; exact h2
  next c => exact h1
theorem good_foldE {n : Nat} {E : List Ed} (hE : EOk n E) : ∀ (F : List Ed), (∀ e ∈ F, e ∈ E) → ∀ M, Good n E M → Good n E (F.foldl addE M)
 | [], _, M, h => h
 | e :: F, hF, M, h => good_foldE hE F (fun x hx => hF x (List.mem_cons_of_mem _ hx)) _ (good_addE hE h (hF e List.mem_cons_self))
theorem addE_le (M : Mat) (e : Ed) (i j : Nat) : addE M e i j ≤ M i j := by unfold addE; split <;> omega
theorem foldE_le : ∀ (F : List Ed) (M : Mat) (i j : Nat), F.foldl addE M i j ≤ M i j
 | [], M, i, j => Int.le_refl _
 | e :: F, M, i, j => Int.le_trans (foldE_le F _ i j) (addE_le M e i j)
theorem foldE_edge : ∀ (F : List Ed) (M : Mat) (e : Ed), e ∈ F → e.f ≠ e.t → F.foldl addE M e.f e.t ≤ e.a
 | d :: F, M, e, h, hn => by
  rcases List.mem_cons.1 h with rfl | h
  ·refine Int.le_trans (foldE_le F _ _ _) ?_
   unfold addE; rw [if_pos ⟨hn, rfl, rfl⟩]; omega
  ·exact foldE_edge F _ e h hn
theorem good_fw {n : Nat} {E : List Ed} {M : Mat} (h : Good n E M) {k : Nat} (hk : k < n) : Good n E (fw M k) := by
 refine ⟨fun i j hi hj => ?_, fun i hi => ?_, fun y hy i j hi hj => ?_⟩
 ·unfold fw; have := h.inn i j hi hj; have := pl_in (h.inn i k hi hk) (h.inn k j hk hj); unfold In at *; omega
 ·unfold fw; rw [h.diag i hi]; have := pl_in (h.inn i k hi hk) (h.inn k i hk hi); unfold In at this; omega
 ·unfold fw
  have h1 := h.pot y hy i j hi hj
  have h2 := h.pot y hy i k hi hk
  have h3 := h.pot y hy k j hk hj
  have h4 : y j ≤ pl (y i) (pl (M i k) (M k j)) := by
   rw [← pl_assoc (hy.inn i hi) (h.inn i k hi hk) (h.inn k j hk hj)]
   exact Int.le_trans h3 (pl_mono h2 (Int.le_refl _))
  rcases Int.le_total (M i j) (pl (M i k) (M k j)) with q | q
  ·rw [Int.min_eq_left q]; exact h1
  ·rw [Int.min_eq_right q]; exact h4
theorem good_wk {n : Nat} {E : List Ed} (hE : EOk n E) : ∀ k, k ≤ n → Good n E (wk E k)
 | 0, _ => good_foldE hE E (fun _ h => h) _ (good_d0 n E)
 | k + 1, h => good_fw (good_wk hE k (by omega)) (by omega)
theorem wk_edge {n : Nat} {E : List Ed} (hE : EOk n E) : ∀ k, k ≤ n → ∀ e ∈ E, wk E k e.f e.t ≤ e.a
 | 0, h, e, he => by
  by_cases c : e.f = e.t
  ·have := (good_wk hE 0 h).diag e.f (hE e he).1
   rw [← c, this]; exact (hE e he).2.2.1
  ·exact foldE_edge E D0 e he c
 | k + 1, h, e, he => by
  have := wk_edge hE k (by omega) e he
  show fw (wk E k) k e.f e.t ≤ e.a
  unfold fw; omega
theorem wk_tri {n : Nat} {E : List Ed} (hE : EOk n E) : ∀ k, k ≤ n → ∀ q i j, q < k → i < n → j < n → wk E k i j ≤ pl (wk E k i q) (wk E k q j)
 | 0, _, q, _, _, h, _, _ => by omega
 | k + 1, hk, q, i, j, hq, hi, hj => by
  have G := good_wk hE k (by omega)
  have hkn : k < n := by omega
  have hqn : q < n := by omega
  have iik := G.inn i k hi hkn; have ikj := G.inn k j hkn hj; have iij := G.inn i j hi hj
  have iiq := G.inn i q hi hqn; have iqj := G.inn q j hqn hj; have ikq := G.inn k q hkn hqn; have iqk := G.inn q k hqn hkn
  show fw (wk E k) k i j ≤ pl (fw (wk E k) k i q) (fw (wk E k) k q j)
  by_cases c : q = k
  ·subst c
   have e1 : fw (wk E q) q i q = wk E q i q := by unfold fw; rw [G.diag q hqn, pl_zero iik]; omega
   have e2 : fw (wk E q) q q j = wk E q q j := by unfold fw; rw [G.diag q hqn, zero_pl ikj]; omega
   rw [e1, e2]; unfold fw; omega
  ·have hq' : q < k := by omega
   have T1 := wk_tri hE k (by omega) q i j hq' hi hj
   have T2 := wk_tri hE k (by omega) q k j hq' hkn hj
   have T3 := wk_tri hE k (by omega) q i k hq' hi hkn
   have L1 : fw (wk E k) k i j ≤ wk E k i j := by unfold fw; omega
   have L2 : fw (wk E k) k i j ≤ pl (wk E k i k) (wk E k k j) := by unfold fw; omega
   generalize fw (wk E k) k i j = R at L1 L2 ⊢
   unfold fw
   rcases Int.le_total (wk E k i q) (pl (wk E k i k) (wk E k k q)) with a | a <;> rcases Int.le_total (wk E k q j) (pl (wk E k q k) (wk E k k j)) with b | b
   ·rw [Int.min_eq_left a, Int.min_eq_left b]; exact Int.le_trans L1 T1
   ·rw [Int.min_eq_left a, Int.min_eq_right b, ← pl_assoc iiq iqk ikj]
    exact Int.le_trans L2 (pl_mono T3 (Int.le_refl _))
   ·rw [Int.min_eq_right a, Int.min_eq_left b, pl_assoc iik ikq iqj]
    exact Int.le_trans L2 (pl_mono (Int.le_refl _) T2)
   ·rw [Int.min_eq_right a, Int.min_eq_right b]
    refine Int.le_trans L2 (pl_mono (le_pl iik ikq) (le_pl' iqk ikj))
theorem ways_pot {n : Nat} {E : List Ed} (hE : EOk n E) {i : Nat} (hi : i < n) : Pot n E (wk E n i) := by
 have G := good_wk hE n (Nat.le_refl n)
 refine ⟨fun v hv => G.inn i v hi hv, fun e he => ?_⟩
 obtain ⟨h1, h2, h3⟩ := hE e he
 exact Int.le_trans (wk_tri hE n (Nat.le_refl n) e.f i e.t h1 hi h2) (pl_mono (Int.le_refl _) (wk_edge hE n (Nat.le_refl n) e he))
theorem ways_most {n : Nat} {E : List Ed} (hE : EOk n E) {i j : Nat} (hi : i < n) (hj : j < n) {y : Nat → Int} (hy : Pot n E y) (h0 : y i = 0) : y j ≤ wk E n i j := by
 have G := good_wk hE n (Nat.le_refl n)
 have := G.pot y hy i j hi hj
 rwa [h0, zero_pl (G.inn i j hi hj)] at this
def rsx (r : Nat → Int) (e : Ed) : Nat → Int := fun j => if j = e.t ∧ pl (r e.f) e.a < r e.t then pl (r e.f) e.a else r j
def cl (E : List Ed) (i : Nat) : Nat → Nat → Int
 | 0 => D0 i
 | m + 1 => E.foldl rsx (cl E i m)
theorem rs_le (r : Nat → Int) (e : Ed) (j : Nat) : rsx r e j ≤ r j := by
 unfold rsx
 split
 ·next c => rw [c.1]; omega
 ·next c => exact Int.le_refl _
theorem foldr_le : ∀ (F : List Ed) (r : Nat → Int) (j : Nat), F.foldl rsx r j ≤ r j
 | [], r, j => Int.le_refl _
 | e :: F, r, j => Int.le_trans (foldr_le F _ j) (rs_le r e j)
theorem foldr_edge : ∀ (F : List Ed) (r : Nat → Int) (e : Ed), e ∈ F → F.foldl rsx r e.t ≤ pl (r e.f) e.a
 | d :: F, r, e, h => by
  rcases List.mem_cons.1 h with rfl | h
  ·refine Int.le_trans (foldr_le F _ _) ?_
   unfold rsx; split
   ·exact Int.le_refl _
   ·next c => exact Int.not_lt.1 (fun q => c ⟨rfl, q⟩)
  ·exact Int.le_trans (foldr_edge F _ e h) (pl_mono (rs_le r d e.f) (Int.le_refl _))
structure RGood (n : Nat) (E : List Ed) (i : Nat) (r : Nat → Int) : Prop where
 inn : ∀ j, j < n → In (r j)
 pot : ∀ y, Pot n E y → y i = 0 → ∀ j, j < n → y j ≤ r j
theorem rgood_rs {n : Nat} {E : List Ed} (hE : EOk n E) {i : Nat} {r : Nat → Int} (h : RGood n E i r) {e : Ed} (he : e ∈ E) : RGood n E i (rsx r e) := by
 obtain ⟨h1, h2, h3⟩ := hE e he
 refine ⟨fun j hj => ?_, fun y hy h0 j hj => ?_⟩
 ·unfold rsx; split
  ·exact pl_in (h.inn _ h1) h3
  ·exact h.inn j hj
 ·unfold rsx; split
  next c => rw [c.1]; exact Int.le_trans (hy.edge e he) (pl_mono (h.pot y hy h0 _ h1) (Int.le_refl _))
  next c => exact h.pot y hy h0 j hj
theorem rgood_fold {n : Nat} {E : List Ed} (hE : EOk n E) {i : Nat} : ∀ (F : List Ed), (∀ e ∈ F, e ∈ E) → ∀ r, RGood n E i r → RGood n E i (F.foldl rsx r)
 | [], _, r, h => h
 | e :: F, hF, r, h => rgood_fold hE F (fun x hx => hF x (List.mem_cons_of_mem _ hx)) _ (rgood_rs hE h (hF e List.mem_cons_self))
theorem rgood_cl {n : Nat} {E : List Ed} (hE : EOk n E) {i : Nat} (hi : i < n) : ∀ m, RGood n E i (cl E i m)
 | 0 => ⟨fun j _ => d0_in i j, fun y hy h0 j hj => by
   show y j ≤ D0 i j
   unfold D0; split
   next c => rw [← c, h0]; exact Int.le_refl _
   next c => exact (hy.inn j hj).2⟩
 | m + 1 => rgood_fold hE E (fun _ h => h) _ (rgood_cl hE hi m)
theorem cl_le {n : Nat} {E : List Ed} (hE : EOk n E) {i j : Nat} (hi : i < n) (hj : j < n) (m : Nat) : wk E n i j ≤ cl E i m j :=
 (rgood_cl hE hi m).pot _ (ways_pot hE hi) ((good_wk hE n (Nat.le_refl n)).diag i hi) j hj
theorem cl_down (E : List Ed) (i j m : Nat) : cl E i (m + 1) j ≤ cl E i m j := foldr_le E _ j
theorem cl_zero {n : Nat} {E : List Ed} (hE : EOk n E) {i : Nat} (hi : i < n) : ∀ m, cl E i m i = 0
 | 0 => by simp [cl, D0]
 | m + 1 => by
  have h1 := cl_down E i i m
  rw [cl_zero hE hi m] at h1
  have := ((rgood_cl hE hi (m + 1)).inn i hi).1
  omega
theorem settles {n : Nat} {E : List Ed} (hE : EOk n E) {i : Nat} (hi : i < n) (m : Nat) (h : ∀ j, j < n → cl E i m j ≠ wk E n i j → cl E i (m + 1) j ≠ wk E n i j) : ∀ j, j < n → cl E i m j = wk E n i j := by
 have P := ways_pot hE hi
 have hz := (good_wk hE n (Nat.le_refl n)).diag i hi
 let y : Nat → Int := fun j => if cl E i m j = wk E n i j then wk E n i j else wk E n i j + 1
 have lo : ∀ j, wk E n i j ≤ y j := fun j => by
  by_cases c : cl E i m j = wk E n i j
  ·have : y j = wk E n i j := if_pos c
   omega
  ·have : y j = wk E n i j + 1 := if_neg c
   omega
 have hy : Pot n E y := by
  refine ⟨fun v hv => ?_, fun e he => ?_⟩
  ·by_cases c : cl E i m v = wk E n i v
   ·have : y v = wk E n i v := if_pos c
    rw [this]; exact P.inn v hv
   ·have : y v = wk E n i v + 1 := if_neg c
    rw [this]
    have h1 := cl_le hE hi hv m; have h2 := (rgood_cl hE hi m).inn v hv; have h3 := P.inn v hv
    unfold In at *; omega
  ·obtain ⟨h1, h2, h3⟩ := hE e he
   have pe := P.edge e he
   by_cases ct : cl E i m e.t = wk E n i e.t
   ·have : y e.t = wk E n i e.t := if_pos ct
    rw [this]
    exact Int.le_trans pe (pl_mono (lo e.f) (Int.le_refl _))
   ·have yt : y e.t = wk E n i e.t + 1 := if_neg ct
    by_cases cf : cl E i m e.f = wk E n i e.f
    ·have yf : y e.f = wk E n i e.f := if_pos cf
     rw [yt, yf]
     have h4 := h e.t h2 ct
     have h5 : cl E i (m + 1) e.t ≤ pl (cl E i m e.f) e.a := foldr_edge E _ e he
     rw [cf] at h5
     have h6 := cl_le hE hi h2 (m + 1)
     omega
    ·have yf : y e.f = wk E n i e.f + 1 := if_neg cf
     rw [yt, yf]
     have h4 := cl_le hE hi h2 m; have h5 := (rgood_cl hE hi m).inn _ h2
     have h6 := P.inn _ h2
     have h7 := P.inn _ h1
     unfold pl at *
     unfold In N at *
     split at pe <;> split <;> omega
 intro j hj
 have h0 : y i = 0 := (if_pos (by rw [cl_zero hE hi m, hz]) : y i = wk E n i i).trans hz
 have := ways_most hE hi hj hy h0
 by_cases c : cl E i m j = wk E n i j
 ·exact c
 ·have : y j = wk E n i j + 1 := if_neg c
  omega
theorem count_lt {α : Type} {p q : α → Bool} : ∀ {l : List α} {x : α}, (∀ x ∈ l, p x = true → q x = true) → x ∈ l → q x = true → p x = false → l.countP p < l.countP q
 | a :: l, x, h, hx, h1, h2 => by
  rw [List.countP_cons, List.countP_cons]
  have mono : l.countP p ≤ l.countP q := List.countP_mono_left fun x hx => h x (List.mem_cons_of_mem _ hx)
  rcases List.mem_cons.1 hx with rfl | hx
  ·rw [if_neg (by simp [h2]), if_pos h1]; omega
  ·have := count_lt (fun x hx => h x (List.mem_cons_of_mem _ hx)) hx h1 h2
   have : (if p a = true then 1 else 0) ≤ (if q a = true then 1 else 0) := by
    by_cases c : p a = true
    ·rw [if_pos c, if_pos (h a List.mem_cons_self c)]; exact Nat.le_refl 1
    ·rw [if_neg c]; exact Nat.zero_le _
   omega
theorem cl_count {n : Nat} {E : List Ed} (hE : EOk n E) {i : Nat} (hi : i < n) : ∀ m, m < n → m + 1 ≤ (List.range n).countP fun j => decide (cl E i m j = wk E n i j)
 | 0, _ => by
  apply List.countP_pos_iff.2
  exact ⟨i, List.mem_range.2 hi, decide_eq_true (by rw [cl_zero hE hi, (good_wk hE n (Nat.le_refl n)).diag i hi])⟩
 | m + 1, hm => by
  have ih := cl_count hE hi m (by omega)
  by_cases c : ∀ j, j < n → cl E i m j ≠ wk E n i j → cl E i (m + 1) j ≠ wk E n i j
  ·have S := settles hE hi m c
   have : (List.range n).countP (fun j => decide (cl E i (m + 1) j = wk E n i j)) = n := by
    rw [List.countP_eq_length.2, List.length_range]
    intro j hj
    have hj := List.mem_range.1 hj
    apply decide_eq_true
    have h1 := cl_down E i j m; rw [S j hj] at h1
    have h2 := cl_le hE hi hj (m + 1)
    omega
   omega
  ·simp only [Classical.not_forall] at c
   obtain ⟨j, hj, h1, h2⟩ := c
   have h2 := Classical.not_not.1 h2
   have := count_lt (p := fun j => decide (cl E i m j = wk E n i j)) (q := fun j => decide (cl E i (m + 1) j = wk E n i j)) (l := List.range n) (x := j) (fun x hx hp => ?_) (List.mem_range.2 hj) (decide_eq_true h2) (decide_eq_false h1)
   ·omega
   ·have hp := of_decide_eq_true hp
    apply decide_eq_true
    have h3 := cl_down E i x m; rw [hp] at h3
    have h4 := cl_le hE hi (List.mem_range.1 hx) (m + 1)
    omega
theorem cl_ways {n : Nat} {E : List Ed} (hE : EOk n E) {i j : Nat} (hi : i < n) (hj : j < n) : cl E i n j = wk E n i j := by
 obtain ⟨m, rfl⟩ : ∃ m, n = m + 1 := ⟨n - 1, by omega⟩
 have h1 := cl_count hE hi m (by omega)
 have h2 := List.countP_le_length (p := fun j => decide (cl E i m j = wk E (m + 1) i j)) (l := List.range (m + 1))
 rw [List.length_range] at h2
 have h3 := List.countP_eq_length.1 (show (List.range (m + 1)).countP (fun j => decide (cl E i m j = wk E (m + 1) i j)) = (List.range (m + 1)).length by rw [List.length_range]; omega) j (List.mem_range.2 hj)
 have h3 := of_decide_eq_true h3
 have h4 := cl_down E i j m; rw [h3] at h4
 have h5 := cl_le hE hi hj (m + 1)
 omega
theorem no_round {n : Nat} {E : List Ed} (hE : EOk n E) (hb : ∀ e ∈ E, e.t ≤ e.f → 1 ≤ e.a) {f t : Nat} (hf : f < n) (ht : t < n) (h : f < t) : wk E n t f ≠ 0 := by
 intro c
 let y : Nat → Int := fun v => if t ≤ v then 0 else 1
 have hy : Pot n E y := by
  refine ⟨fun v _ => ?_, fun e he => ?_⟩
  ·by_cases c : t ≤ v
   ·rw [show y v = 0 from if_pos c]; exact in_zero
   ·rw [show y v = 1 from if_neg c]; unfold In N; omega
  ·obtain ⟨h1, h2, h3⟩ := hE e he
   have hb := hb e he
   by_cases c1 : t ≤ e.t
   ·rw [show y e.t = 0 from if_pos c1]
    by_cases c2 : t ≤ e.f
    ·rw [show y e.f = 0 from if_pos c2, zero_pl h3]; exact h3.1
    ·rw [show y e.f = 1 from if_neg c2]; unfold In pl N at *; split <;> omega
   ·rw [show y e.t = 1 from if_neg c1]
    by_cases c2 : t ≤ e.f
    ·rw [show y e.f = 0 from if_pos c2, zero_pl h3]; exact hb (by omega)
    ·rw [show y e.f = 1 from if_neg c2]; unfold In pl N at *; split <;> omega
 have := ways_most hE ht hf hy (if_pos (Nat.le_refl t))
 rw [show y f = 1 from if_neg (by omega), c] at this
 omega
end Go.Proofs.Ytgeldmhgbnamcaa.Pure.FW
end
section
namespace Go.Proofs.Ytgeldmhgbnamcaa.Pure
open Go.RowKit Go.Proofs.Ytgeldmhgbnamcaa.P Go.Proofs.YtgeldmhgbnamcaaW.PrintWords Go.Proofs.YtgeldmhgbnamcaaW.PrintLast Go.Proofs.YtgeldmhgbnamcaaW.PrintMore
open FW
set_option linter.unusedVariables false
set_option linter.unusedSimpArgs false
def Ls {α : Type} (n : Nat) (g : Nat → α) : List α := (List.range n).map g
theorem ls_len {α : Type} (n : Nat) (g : Nat → α) : (Ls n g).length = n := by simp [Ls]
theorem ls_get {α : Type} (n : Nat) (g : Nat → α) (d : α) {i : Nat} (h : i < n) : (Ls n g).getD i d = g i := by
 simp [Ls, List.getD, h]
theorem ls_set {α : Type} (n : Nat) (g : Nat → α) (i : Nat) (x : α) : (Ls n g).set i x = Ls n (fun a => if a = i then x else g a) := by
 apply List.ext_getElem
 ·simp [Ls]
 ·intro j h1 h2
  simp only [Ls, List.getElem_set, List.getElem_map, List.getElem_range]
  by_cases c : i = j
  ·rw [if_pos c, if_pos c.symm]
  ·rw [if_neg c, if_neg (fun q => c q.symm)]
theorem ls_congr {α : Type} {n : Nat} {f g : Nat → α} (h : ∀ i, i < n → f i = g i) : Ls n f = Ls n g := by
 unfold Ls; exact List.map_congr_left fun i hi => h i (List.mem_range.1 hi)
theorem ls_rep {α : Type} (n : Nat) (x : α) : List.replicate n x = Ls n (fun _ => x) := by
 apply List.ext_getElem <;> simp [Ls]
theorem ls_snoc {α : Type} (n : Nat) (g : Nat → α) : Ls n g ++ [g n] = Ls (n + 1) g := by simp [Ls, List.range_succ]
theorem ls_rd (n : Nat) (g : Nat → Int) {i : Nat} (h : i < n) : rd (Ls n g) (i : Int) = g i := by unfold rd; rw [Int.toNat_natCast, ls_get n g 0 h]
theorem ls_rdL (n : Nat) (g : Nat → List Int) {i : Nat} (h : i < n) : rd_L7 (Ls n g) (i : Int) = g i := by unfold rd_L7; rw [Int.toNat_natCast, ls_get n g [] h]
def mat (n : Nat) (M : Mat) : List (List Int) := Ls n fun i => Ls n (M i)
theorem mat_len (n : Nat) (M : Mat) : (mat n M).length = n := ls_len n _
theorem mat_row (n : Nat) (M : Mat) {i : Nat} (h : i < n) : rd_L7 (mat n M) (i : Int) = Ls n (M i) := ls_rdL n _ h
theorem mat_congr {n : Nat} {M W : Mat} (h : ∀ i j, i < n → j < n → M i j = W i j) : mat n M = mat n W := ls_congr fun i hi => ls_congr fun j hj => h i j hi hj
def upd (M : Mat) (i j : Nat) (x : Int) : Mat := fun a b => if a = i ∧ b = j then x else M a b
theorem mat_set (n : Nat) (M : Mat) (i j : Nat) (x : Int) : (mat n M).set i ((Ls n (M i)).set j x) = mat n (upd M i j x) := by
 unfold mat
 rw [ls_set, ls_set]
 refine ls_congr fun a _ => ?_
 by_cases c : a = i
 ·rw [if_pos c]; refine ls_congr fun b _ => ?_
  unfold upd; subst c
  by_cases d : b = j
  ·rw [if_pos d, if_pos ⟨rfl, d⟩]
  ·rw [if_neg d, if_neg (fun q => d q.2)]
 ·rw [if_neg c]; refine ls_congr fun b _ => ?_
  unfold upd; rw [if_neg (fun q => c q.1)]
theorem mn_eq (a b : Int) : mn a b = min a b := by unfold mn; split <;> omega
theorem plus_eq {a b : Int} (ha : In a) (hb : In b) : stamp_Plus.f a b = some (pl a b) := by
 unfold In N at ha hb
 have e : IntKind.u64.wrap (18446744073709551615 - b) = 18446744073709551615 - b := by rw [IntKind.wrap_u64]; omega
 unfold stamp_Plus.f pl N
 rw [e]
 by_cases c : 18446744073709551615 ≤ a + b
 ·rw [if_pos (by omega), if_pos c]
 ·rw [if_neg (by omega), if_neg c, show IntKind.u64.wrap (a + b) = a + b by rw [IntKind.wrap_u64]; omega]
theorem w64 {n : Nat} (h : n < 1000000) : wrap64 ((n : Int) + 1) = ((n + 1 : Nat) : Int) := by unfold wrap64; omega
def ed (e : S95) : Ed := ⟨e.f0.toNat, e.f1.toNat, e.f2⟩
def WE (n : Nat) (E : List S95) : Prop := ∀ e ∈ E, 0 ≤ e.f0 ∧ e.f0 < n ∧ 0 ≤ e.f1 ∧ e.f1 < n ∧ In e.f2
theorem we_ok {n : Nat} {E : List S95} (h : WE n E) : EOk n (E.map ed) := by
 intro e he
 obtain ⟨x, hx, rfl⟩ := List.mem_map.1 he
 obtain ⟨h1, h2, h3, h4, h5⟩ := h x hx
 exact ⟨by show x.f0.toNat < n; omega, by show x.f1.toNat < n; omega, h5⟩
theorem rep_eq {n : Nat} (h : n ≤ 1000000) : slices_Repeat.f [18446744073709551615] (n : Int) = some (List.replicate n 18446744073709551615) := by
 unfold slices_Repeat.f
 rw [if_pos ⟨rfl, by omega, by omega⟩, Int.toNat_natCast]
 rfl
def St (M : Mat) (k i j : Nat) : Mat := fun a b => if a < i ∨ (a = i ∧ b < j) then fw M k a b else M a b
theorem st_next {n : Nat} {E : List Ed} {M : Mat} (G : FW.Good n E M) {k i j : Nat} (hk : k < n) (hi : i < n) (hj : j < n) :
  (mat n (St M k i j)).set i ((Ls n (St M k i j i)).set j (mn (St M k i j i j) (pl (St M k i j i k) (St M k i j k j)))) = mat n (St M k i (j + 1)) := by
 have e1 : fw M k i k = M i k := by unfold fw; rw [G.diag k hk, pl_zero (G.inn i k hi hk)]; omega
 have e2 : fw M k k j = M k j := by unfold fw; rw [G.diag k hk, zero_pl (G.inn k j hk hj)]; omega
 have a1 : St M k i j i j = M i j := by unfold St; rw [if_neg (by omega)]
 have a2 : St M k i j i k = M i k := by unfold St; split; exact e1; rfl
 have a3 : St M k i j k j = M k j := by unfold St; split; exact e2; rfl
 rw [a1, a2, a3, mn_eq, mat_set]
 refine mat_congr fun a b ha hb => ?_
 unfold upd
 by_cases c : a = i ∧ b = j
 ·obtain ⟨rfl, rfl⟩ := c
  rw [if_pos ⟨rfl, rfl⟩]; unfold St; rw [if_pos (by omega)]; rfl
 ·rw [if_neg c]; unfold St
  by_cases d : a < i ∨ a = i ∧ b < j
  ·rw [if_pos d, if_pos (by omega)]
  ·rw [if_neg d, if_neg (by omega)]
section
variable {n : Nat} {E : List S95} {I : List Int}
theorem ways_l4 {M : Mat} (G : FW.Good n (E.map ed) M) (hn : n ≤ 1000) {k i : Nat} (hk : k < n) (hi : i < n) (a : Int) (R : List (List Int)) (h : Ev (fun q => graph_Graph_ways.l3 q (mat n (St M k i n)) k (n : Int) a (n : Int) (wrap64 ((i : Int) + 1)) (n : Int) E I) R) :
  ∀ d j : Nat, j + d = n → Ev (fun q => graph_Graph_ways.l4 q (mat n (St M k i j)) k i (n : Int) a (n : Int) (i : Int) (n : Int) (j : Int) (n : Int) E I) R
 | 0, j, hj => by
  obtain rfl : j = n := by omega
  obtain ⟨K, h⟩ := h
  refine ⟨K + 1, fun q hq => ?_⟩
  obtain ⟨q, rfl⟩ : ∃ m, q = m + 1 := ⟨q - 1, by omega⟩
  show graph_Graph_ways.l4 (q + 1) _ _ _ _ _ _ _ _ _ _ _ _ = _
  rw [graph_Graph_ways.l4, if_neg (by omega)]
  exact h q (by omega)
 | d + 1, j, hj => by
  obtain ⟨K, h⟩ := ways_l4 G hn hk hi a R h d (j + 1) (by omega)
  have hjn : j < n := by omega
  refine ⟨K + 1, fun q hq => ?_⟩
  obtain ⟨q, rfl⟩ : ∃ m, q = m + 1 := ⟨q - 1, by omega⟩
  have h := h q (by omega)
  dsimp only at h
  have r1 := mat_row n (St M k i j) hi
  have r2 := mat_row n (St M k i j) hk
  have i1 : In (St M k i j i k) := by unfold St; split; exact (good_fw G hk).inn i k hi hk; exact G.inn i k hi hk
  have i2 : In (St M k i j k j) := by unfold St; split; exact (good_fw G hk).inn k j hk hjn; exact G.inn k j hk hjn
  show graph_Graph_ways.l4 (q + 1) _ _ _ _ _ _ _ _ _ _ _ _ = _
  rw [graph_Graph_ways.l4, if_pos (by omega), if_pos (by omega), mat_len, if_pos (by omega), if_pos (by omega), r1, ls_len, if_pos (by omega), if_pos (by omega), if_pos (by omega), if_pos (by omega), r2, ls_len, if_pos (by omega), ls_rd n _ hk, ls_rd n _ hjn, plus_eq i1 i2, Option.bind_some, ls_rd n _ hjn, Int.toNat_natCast, Int.toNat_natCast, st_next G hk hi hjn, w64 (by omega)]
  exact h
theorem ways_l3 {M : Mat} (G : FW.Good n (E.map ed) M) (hn : n ≤ 1000) {k : Nat} (hk : k < n) (a : Int) (R : List (List Int)) (h : Ev (fun q => graph_Graph_ways.l2 q (mat n (fw M k)) (n : Int) (wrap64 (a + 1)) (n : Int) E I) R) :
  ∀ d i : Nat, i + d = n → Ev (fun q => graph_Graph_ways.l3 q (mat n (St M k i 0)) k (n : Int) a (n : Int) (i : Int) (n : Int) E I) R
 | 0, i, hi => by
  obtain rfl : i = n := by omega
  have e : mat i (St M k i 0) = mat i (fw M k) := mat_congr fun x y hx hy => by unfold St; rw [if_pos (by omega)]
  obtain ⟨K, h⟩ := h
  refine ⟨K + 1, fun q hq => ?_⟩
  obtain ⟨q, rfl⟩ : ∃ m, q = m + 1 := ⟨q - 1, by omega⟩
  show graph_Graph_ways.l3 (q + 1) _ _ _ _ _ _ _ _ _ = _
  rw [graph_Graph_ways.l3, if_neg (by omega), e]
  exact h q (by omega)
 | d + 1, i, hi => by
  have hin : i < n := by omega
  have e : mat n (St M k i n) = mat n (St M k (i + 1) 0) := mat_congr fun x y hx hy => by
   unfold St
   by_cases c : x < i + 1
   ·rw [if_pos (by omega), if_pos (by omega)]
   ·rw [if_neg (by omega), if_neg (by omega)]
  have ih := ways_l3 G hn hk a R h d (i + 1) (by omega)
  rw [← e] at ih
  have h4 := ways_l4 G hn hk hin a R (by rw [w64 (by omega)]; exact ih) n 0 (by omega)
  obtain ⟨K, h4⟩ := h4
  refine ⟨K + 1, fun q hq => ?_⟩
  obtain ⟨q, rfl⟩ : ∃ m, q = m + 1 := ⟨q - 1, by omega⟩
  show graph_Graph_ways.l3 (q + 1) _ _ _ _ _ _ _ _ _ = _
  rw [graph_Graph_ways.l3, if_pos (by omega)]
  exact h4 q (by omega)
theorem ways_l2 (hE : WE n E) (hn : n ≤ 1000) : ∀ d k : Nat, k + d = n → Ev (fun q => graph_Graph_ways.l2 q (mat n (wk (E.map ed) k)) (n : Int) (k : Int) (n : Int) E I) (mat n (wk (E.map ed) n))
 | 0, k, hk => by
  obtain rfl : k = n := by omega
  refine ⟨1, fun q hq => ?_⟩
  obtain ⟨q, rfl⟩ : ∃ m, q = m + 1 := ⟨q - 1, by omega⟩
  show graph_Graph_ways.l2 (q + 1) _ _ _ _ _ _ = _
  rw [graph_Graph_ways.l2, if_neg (by omega)]
 | d + 1, k, hk => by
  have ih := ways_l2 hE hn d (k + 1) (by omega)
  have h3 := ways_l3 (good_wk (we_ok hE) k (by omega)) hn (show k < n by omega) (k : Int) _ (by rw [w64 (by omega)]; exact ih) n 0 (by omega)
  have e : mat n (St (wk (E.map ed) k) k 0 0) = mat n (wk (E.map ed) k) := mat_congr fun x y hx hy => by unfold St; rw [if_neg (by omega)]
  rw [e] at h3
  obtain ⟨K, h3⟩ := h3
  refine ⟨K + 1, fun q hq => ?_⟩
  obtain ⟨q, rfl⟩ : ∃ m, q = m + 1 := ⟨q - 1, by omega⟩
  show graph_Graph_ways.l2 (q + 1) _ _ _ _ _ _ = _
  rw [graph_Graph_ways.l2, if_pos (by omega)]
  exact h3 q (by omega)
theorem rd95 (p : List S95) (x : S95) (q : List S95) {i : Int} (h : i = p.length) : rd_T95 (p ++ x :: q) i = x := by subst h; simp [rd_T95]
theorem addE_set (n : Nat) (M : Mat) (x : S95) (h0 : 0 ≤ x.f0) (h1 : 0 ≤ x.f1) (hne : ¬ x.f0 = x.f1) : (mat n M).set x.f0.toNat ((Ls n (M x.f0.toNat)).set x.f1.toNat (mn (M x.f0.toNat x.f1.toNat) x.f2)) = mat n (addE M (ed x)) := by
 rw [mat_set, mn_eq]
 refine mat_congr fun a b _ _ => ?_
 unfold upd addE ed
 by_cases c : a = x.f0.toNat ∧ b = x.f1.toNat
 ·rw [if_pos c, if_pos ⟨by show x.f0.toNat ≠ x.f1.toNat; omega, c.1, c.2⟩, c.1, c.2]
 ·rw [if_neg c, if_neg (fun q => c q.2)]
theorem addE_self (M : Mat) (x : S95) (h : x.f0 = x.f1) : addE M (ed x) = M := by
 funext a b
 unfold addE ed
 rw [if_neg (by rintro ⟨q, _⟩; exact q (congrArg Int.toNat h))]
theorem ways_l1 (hE : WE n E) (hn : n ≤ 1000) (hl : E.length ≤ 1000) : ∀ (rest pre : List S95), E = pre ++ rest → Ev (fun q => graph_Graph_ways.l1 q (mat n ((pre.map ed).foldl addE D0)) E (E.length : Int) (pre.length : Int) (n : Int) E I) (mat n (wk (E.map ed) n))
 | [], pre, h => by
  rw [List.append_nil] at h
  subst h
  obtain ⟨K, h2⟩ := ways_l2 (I := I) hE hn n 0 (by omega)
  refine ⟨K + 1, fun q hq => ?_⟩
  obtain ⟨q, rfl⟩ : ∃ m, q = m + 1 := ⟨q - 1, by omega⟩
  show graph_Graph_ways.l1 (q + 1) _ _ _ _ _ _ _ = _
  rw [graph_Graph_ways.l1, if_neg (by omega)]
  exact h2 q (by omega)
 | x :: rest, pre, h => by
  have ih := ways_l1 hE hn hl rest (pre ++ [x]) (by rw [h]; simp)
  have hlen : pre.length + 1 ≤ E.length := by rw [h, List.length_append, List.length_cons]; omega
  obtain ⟨x0, x1, x2, x3, x4⟩ := hE x (by rw [h]; simp)
  have hr : rd_T95 E (pre.length : Int) = x := by rw [h]; exact rd95 pre x rest rfl
  rw [List.map_append, List.foldl_append] at ih
  simp only [List.map_cons, List.map_nil, List.foldl_cons, List.foldl_nil, List.length_append, List.length_cons, List.length_nil, Nat.zero_add] at ih
  obtain ⟨K, ih⟩ := ih
  generalize hM : (pre.map ed).foldl addE D0 = M at ih ⊢
  refine ⟨K + 1, fun q hq => ?_⟩
  obtain ⟨q, rfl⟩ : ∃ m, q = m + 1 := ⟨q - 1, by omega⟩
  have ih := ih q (by omega)
  dsimp only at ih
  have f0 : x.f0 = ((x.f0.toNat : Nat) : Int) := by omega
  have f1 : x.f1 = ((x.f1.toNat : Nat) : Int) := by omega
  have r1 : rd_L7 (mat n M) x.f0 = Ls n (M x.f0.toNat) := by rw [f0]; exact mat_row n M (by omega)
  have r2 : rd (Ls n (M x.f0.toNat)) x.f1 = M x.f0.toNat x.f1.toNat := by rw [f1]; exact ls_rd n _ (by omega)
  show graph_Graph_ways.l1 (q + 1) _ _ _ _ _ _ _ = _
  rw [graph_Graph_ways.l1, if_pos (by omega), if_pos (by omega), if_pos (by omega), hr]
  by_cases c : x.f0 = x.f1
  ·rw [if_pos c, w64 (by omega)]
   rw [addE_self M x c] at ih
   exact ih
  ·rw [if_neg c, if_pos x0, mat_len, if_pos x1, if_pos x2, r1, ls_len, if_pos x3, r2, addE_set n M x x0 x2 c, w64 (by omega)]
   exact ih
theorem ways_l0 (hE : WE n E) (hn : n ≤ 1000) (hl : E.length ≤ 1000) : ∀ d p : Nat, p + d = n → Ev (fun q => graph_Graph_ways.l0 q (Ls p fun i => Ls n (D0 i)) (n : Int) (p : Int) (n : Int) E I) (mat n (wk (E.map ed) n))
 | 0, p, hp => by
  obtain rfl : p = n := by omega
  obtain ⟨K, h⟩ := ways_l1 (I := I) hE hn hl E [] rfl
  refine ⟨K + 1, fun q hq => ?_⟩
  obtain ⟨q, rfl⟩ : ∃ m, q = m + 1 := ⟨q - 1, by omega⟩
  show graph_Graph_ways.l0 (q + 1) _ _ _ _ _ _ = _
  rw [graph_Graph_ways.l0, if_neg (by omega)]
  exact h q (by omega)
 | d + 1, p, hp => by
  obtain ⟨K, ih⟩ := ways_l0 hE hn hl d (p + 1) (by omega)
  refine ⟨K + 1, fun q hq => ?_⟩
  obtain ⟨q, rfl⟩ : ∃ m, q = m + 1 := ⟨q - 1, by omega⟩
  have ih := ih q (by omega)
  dsimp only at ih
  have e : (List.replicate n (18446744073709551615 : Int)).set p 0 = Ls n (D0 p) := by
   rw [ls_rep, ls_set]
   refine ls_congr fun a _ => ?_
   unfold D0 N
   by_cases c : a = p
   ·rw [if_pos c, if_pos c.symm]
   ·rw [if_neg c, if_neg (fun q => c q.symm)]
  show graph_Graph_ways.l0 (q + 1) _ _ _ _ _ _ = _
  rw [graph_Graph_ways.l0, if_pos (by omega), rep_eq (by omega), Option.bind_some, if_pos (by omega), List.length_replicate, if_pos (by omega), ls_len, if_pos (by omega), Int.toNat_natCast, e, ls_snoc p (fun i => Ls n (D0 i)), w64 (by omega)]
  exact ih
end
theorem ways_ev {n : Nat} {E : List S95} (I : List Int) (hE : WE n E) (hn : n ≤ 1000) (hl : E.length ≤ 1000) : Ev (fun q => graph_Graph_ways.f q (n : Int) E I) (mat n (wk (E.map ed) n)) := ways_l0 hE hn hl n 0 (by omega)
theorem plus1_eq {a b : Int} (ha : In a) (hb : In b) : marchlandref01_Plus.f a b = some (pl a b) := by
 unfold In N at ha hb
 have e : IntKind.u64.wrap (18446744073709551615 - a) = 18446744073709551615 - a := by rw [IntKind.wrap_u64]; omega
 unfold marchlandref01_Plus.f pl N
 rw [e]
 by_cases c : 18446744073709551615 ≤ a + b
 ·rw [if_pos (by omega), if_pos c]
 ·rw [if_neg (by omega), if_neg c, show IntKind.u64.wrap (a + b) = a + b by rw [IntKind.wrap_u64]; omega]
def ed9 (e : S90) : Ed := ⟨e.f0.toNat, e.f1.toNat, e.f2⟩
def WE9 (n : Nat) (E : List S90) : Prop := ∀ e ∈ E, 0 ≤ e.f0 ∧ e.f0 < n ∧ 0 ≤ e.f1 ∧ e.f1 < n ∧ In e.f2
theorem we9_ok {n : Nat} {E : List S90} (h : WE9 n E) : EOk n (E.map ed9) := by
 intro e he
 obtain ⟨x, hx, rfl⟩ := List.mem_map.1 he
 obtain ⟨h1, h2, h3, h4, h5⟩ := h x hx
 exact ⟨by show x.f0.toNat < n; omega, by show x.f1.toNat < n; omega, h5⟩
theorem rd90 (p : List S90) (x : S90) (q : List S90) {i : Int} (h : i = p.length) : rd_T90 (p ++ x :: q) i = x := by subst h; simp [rd_T90]
section
variable {n : Nat} {E : List S90} {I : List Int}
def Zf (E : List Ed) (r i : Nat) (ρ : Nat → Int) : Mat := fun a => if a = i then ρ else if a < i then cl E a (r + 1) else cl E a r
theorem zf_set (E : List Ed) (r i : Nat) (ρ : Nat → Int) (n j : Nat) (x : Int) : (mat n (Zf E r i ρ)).set i ((Ls n ρ).set j x) = mat n (Zf E r i (fun b => if b = j then x else ρ b)) := by
 have e : ρ = Zf E r i ρ i := by unfold Zf; rw [if_pos rfl]
 have h := mat_set n (Zf E r i ρ) i j x
 rw [← e] at h
 rw [h]
 refine mat_congr fun a b _ _ => ?_
 unfold upd Zf
 by_cases c : a = i
 ·rw [if_pos c, if_pos c]
  by_cases d : b = j
  ·rw [if_pos ⟨c, d⟩, if_pos d]
  ·rw [if_neg (fun q => d q.2), if_neg d]
 ·rw [if_neg (fun q => c q.1), if_neg c, if_neg c]
theorem closed_l4 (hE : WE9 n E) (hn : n ≤ 1000) (hl : E.length ≤ 1000) {r i : Nat} (hi : i < n) (R : List (List Int))
  (h : Ev (fun q => marchlandref05_closed.l3 q (mat n (Zf (E.map ed9) r i (cl (E.map ed9) i (r + 1)))) (r : Int) ((i + 1 : Nat) : Int) (n : Int) E I) R) :
  ∀ (rest pre : List S90), E = pre ++ rest → Ev (fun q => marchlandref05_closed.l4 q (mat n (Zf (E.map ed9) r i ((pre.map ed9).foldl rsx (cl (E.map ed9) i r)))) (r : Int) (i : Int) (pre.length : Int) (n : Int) E I) R
 | [], pre, hp => by
  rw [List.append_nil] at hp
  subst hp
  obtain ⟨K, h⟩ := h
  refine ⟨K + 1, fun q hq => ?_⟩
  obtain ⟨q, rfl⟩ : ∃ m, q = m + 1 := ⟨q - 1, by omega⟩
  show marchlandref05_closed.l4 (q + 1) _ _ _ _ _ _ _ = _
  rw [marchlandref05_closed.l4, if_neg (by omega), w64 (by omega)]
  exact h q (by omega)
 | x :: rest, pre, hp => by
  have ih := closed_l4 hE hn hl hi R h rest (pre ++ [x]) (by rw [hp]; simp)
  have hlen : pre.length + 1 ≤ E.length := by rw [hp, List.length_append, List.length_cons]; omega
  obtain ⟨x0, x1, x2, x3, x4⟩ := hE x (by rw [hp]; simp)
  have hr : rd_T90 E (pre.length : Int) = x := by rw [hp]; exact rd90 pre x rest rfl
  have hg : RGood n (E.map ed9) i ((pre.map ed9).foldl rsx (cl (E.map ed9) i r)) := rgood_fold (we9_ok hE) _ (fun e he => by rw [hp, List.map_append]; exact List.mem_append_left _ he) _ (rgood_cl (we9_ok hE) hi r)
  rw [List.map_append, List.foldl_append] at ih
  simp only [List.map_cons, List.map_nil, List.foldl_cons, List.foldl_nil, List.length_append, List.length_cons, List.length_nil, Nat.zero_add] at ih
  obtain ⟨K, ih⟩ := ih
  generalize (pre.map ed9).foldl rsx (cl (E.map ed9) i r) = ρ at ih hg ⊢
  refine ⟨K + 1, fun q hq => ?_⟩
  obtain ⟨q, rfl⟩ : ∃ m, q = m + 1 := ⟨q - 1, by omega⟩
  have ih := ih q (by omega)
  dsimp only at ih
  have f0 : x.f0 = ((x.f0.toNat : Nat) : Int) := by omega
  have f1 : x.f1 = ((x.f1.toNat : Nat) : Int) := by omega
  have r1 : rd_L7 (mat n (Zf (E.map ed9) r i ρ)) (i : Int) = Ls n ρ := by rw [mat_row n _ hi]; unfold Zf; rw [if_pos rfl]
  have r2 : rd (Ls n ρ) x.f0 = ρ x.f0.toNat := by rw [f0]; exact ls_rd n _ (by omega)
  have r3 : rd (Ls n ρ) x.f1 = ρ x.f1.toNat := by rw [f1]; exact ls_rd n _ (by omega)
  show marchlandref05_closed.l4 (q + 1) _ _ _ _ _ _ _ = _
  rw [marchlandref05_closed.l4, if_pos (by omega), if_pos (by omega), if_pos (by omega), mat_len, if_pos (by omega), hr, if_pos x0, r1, ls_len, if_pos x1, r2, plus1_eq (hg.inn _ (by omega)) x4, Option.bind_some, if_pos x2, if_pos x3, r3]
  by_cases c : pl (ρ x.f0.toNat) x.f2 < ρ x.f1.toNat
  ·rw [if_pos c, Int.toNat_natCast, zf_set, w64 (by omega)]
   have e : rsx ρ (ed9 x) = fun b => if b = x.f1.toNat then pl (ρ x.f0.toNat) x.f2 else ρ b := by
    funext b; unfold rsx ed9
    by_cases d : b = x.f1.toNat
    ·rw [if_pos ⟨d, c⟩, if_pos d]
    ·rw [if_neg (fun q => d q.1), if_neg d]
   rw [← e]; exact ih
  ·rw [if_neg c, w64 (by omega)]
   have e : rsx ρ (ed9 x) = ρ := by
    funext b; unfold rsx ed9
    rw [if_neg (fun q => c q.2)]
   rw [← e]; exact ih
theorem closed_l3 (hE : WE9 n E) (hn : n ≤ 1000) (hl : E.length ≤ 1000) {r : Nat} (R : List (List Int)) (h : Ev (fun q => marchlandref05_closed.l2 q (mat n (fun a => cl (E.map ed9) a (r + 1))) (wrap64 ((r : Int) + 1)) (n : Int) E I) R) :
  ∀ d i : Nat, i + d = n → Ev (fun q => marchlandref05_closed.l3 q (mat n (fun a => if a < i then cl (E.map ed9) a (r + 1) else cl (E.map ed9) a r)) (r : Int) (i : Int) (n : Int) E I) R
 | 0, i, hi => by
  obtain rfl : i = n := by omega
  have e : mat i (fun a => if a < i then cl (E.map ed9) a (r + 1) else cl (E.map ed9) a r) = mat i (fun a => cl (E.map ed9) a (r + 1)) := mat_congr fun x y hx hy => by rw [if_pos hx]
  obtain ⟨K, h⟩ := h
  refine ⟨K + 1, fun q hq => ?_⟩
  obtain ⟨q, rfl⟩ : ∃ m, q = m + 1 := ⟨q - 1, by omega⟩
  show marchlandref05_closed.l3 (q + 1) _ _ _ _ _ _ = _
  rw [marchlandref05_closed.l3, if_neg (by omega), e]
  exact h q (by omega)
 | d + 1, i, hi => by
  have hin : i < n := by omega
  have ih := closed_l3 hE hn hl R h d (i + 1) (by omega)
  have e1 : mat n (Zf (E.map ed9) r i (cl (E.map ed9) i (r + 1))) = mat n (fun a => if a < i + 1 then cl (E.map ed9) a (r + 1) else cl (E.map ed9) a r) := mat_congr fun x y hx hy => by
   unfold Zf
   by_cases c : x = i
   ·rw [if_pos c, if_pos (by omega), c]
   ·by_cases d : x < i
    ·rw [if_neg c, if_pos d, if_pos (by omega)]
    ·rw [if_neg c, if_neg d, if_neg (by omega)]
  have e2 : mat n (Zf (E.map ed9) r i (cl (E.map ed9) i r)) = mat n (fun a => if a < i then cl (E.map ed9) a (r + 1) else cl (E.map ed9) a r) := mat_congr fun x y hx hy => by
   unfold Zf
   by_cases c : x = i
   ·rw [if_pos c, if_neg (by omega), c]
   ·rw [if_neg c]
  rw [← e1] at ih
  obtain ⟨K, h4⟩ := closed_l4 hE hn hl hin R ih E [] rfl
  refine ⟨K + 1, fun q hq => ?_⟩
  obtain ⟨q, rfl⟩ : ∃ m, q = m + 1 := ⟨q - 1, by omega⟩
  show marchlandref05_closed.l3 (q + 1) _ _ _ _ _ _ = _
  rw [marchlandref05_closed.l3, if_pos (by omega), ← e2]
  exact h4 q (by omega)
theorem closed_l2 (hE : WE9 n E) (hn : n ≤ 1000) (hl : E.length ≤ 1000) : ∀ d r : Nat, r + d = n → Ev (fun q => marchlandref05_closed.l2 q (mat n (fun a => cl (E.map ed9) a r)) (r : Int) (n : Int) E I) (mat n (fun a => cl (E.map ed9) a n))
 | 0, r, hr => by
  obtain rfl : r = n := by omega
  refine ⟨1, fun q hq => ?_⟩
  obtain ⟨q, rfl⟩ : ∃ m, q = m + 1 := ⟨q - 1, by omega⟩
  show marchlandref05_closed.l2 (q + 1) _ _ _ _ _ = _
  rw [marchlandref05_closed.l2, if_neg (by omega)]
 | d + 1, r, hr => by
  have ih := closed_l2 hE hn hl d (r + 1) (by omega)
  have h3 := closed_l3 (r := r) hE hn hl _ (by rw [w64 (by omega)]; exact ih) n 0 (by omega)
  have e : mat n (fun a => if a < 0 then cl (E.map ed9) a (r + 1) else cl (E.map ed9) a r) = mat n (fun a => cl (E.map ed9) a r) := mat_congr fun x y hx hy => by rw [if_neg (Nat.not_lt_zero x)]
  rw [e] at h3
  obtain ⟨K, h3⟩ := h3
  refine ⟨K + 1, fun q hq => ?_⟩
  obtain ⟨q, rfl⟩ : ∃ m, q = m + 1 := ⟨q - 1, by omega⟩
  show marchlandref05_closed.l2 (q + 1) _ _ _ _ _ = _
  rw [marchlandref05_closed.l2, if_pos (by omega)]
  exact h3 q (by omega)
def Xr (i j : Nat) : Nat → Int := fun b => if b < j then D0 i b else 0
def Xs (n i j : Nat) : List (List Int) := Ls n fun a => if a = i then Ls n (Xr i j) else if a < i then Ls n (D0 a) else []
def Ys (n i : Nat) : List (List Int) := Ls n fun a => if a < i then Ls n (D0 a) else []
theorem closed_l1 (hn : n ≤ 1000) {i : Nat} (hi : i < n) (R : List (List Int)) (h : Ev (fun q => marchlandref05_closed.l0 q (Ys n (i + 1)) ((i + 1 : Nat) : Int) (n : Int) E I) R) :
  ∀ d j : Nat, j + d = n → Ev (fun q => marchlandref05_closed.l1 q (Xs n i j) (i : Int) (j : Int) (n : Int) E I) R
 | 0, j, hj => by
  obtain rfl : j = n := by omega
  have e : Xs j i j = Ys j (i + 1) := ls_congr fun a ha => by
   by_cases c : a = i
   ·rw [if_pos c, if_pos (by omega), c]; exact ls_congr fun b hb => if_pos hb
   ·rw [if_neg c]
    by_cases d : a < i
    ·rw [if_pos d, if_pos (by omega)]
    ·rw [if_neg d, if_neg (by omega)]
  obtain ⟨K, h⟩ := h
  refine ⟨K + 1, fun q hq => ?_⟩
  obtain ⟨q, rfl⟩ : ∃ m, q = m + 1 := ⟨q - 1, by omega⟩
  show marchlandref05_closed.l1 (q + 1) _ _ _ _ _ _ = _
  rw [marchlandref05_closed.l1, if_neg (by omega), e, w64 (by omega)]
  exact h q (by omega)
 | d + 1, j, hj => by
  have hjn : j < n := by omega
  obtain ⟨K, ih⟩ := closed_l1 hn hi R h d (j + 1) (by omega)
  refine ⟨K + 1, fun q hq => ?_⟩
  obtain ⟨q, rfl⟩ : ∃ m, q = m + 1 := ⟨q - 1, by omega⟩
  have ih := ih q (by omega)
  dsimp only at ih
  have r1 : rd_L7 (Xs n i j) (i : Int) = Ls n (Xr i j) := by unfold Xs; rw [ls_rdL n _ hi, if_pos rfl]
  have s1 : ∀ ρ : Nat → Int, (Xs n i j).set i (Ls n ρ) = Ls n fun a => if a = i then Ls n ρ else if a < i then Ls n (D0 a) else [] := fun ρ => by
   unfold Xs; rw [ls_set]; refine ls_congr fun a _ => ?_
   by_cases c : a = i
   ·rw [if_pos c, if_pos c]
   ·rw [if_neg c, if_neg c, if_neg c]
  have s2 : ∀ ρ σ : Nat → Int, (Ls n fun a => if a = i then Ls n ρ else if a < i then Ls n (D0 a) else []).set i (Ls n σ) = Ls n fun a => if a = i then Ls n σ else if a < i then Ls n (D0 a) else [] := fun ρ σ => by
   rw [ls_set]; refine ls_congr fun a _ => ?_
   by_cases c : a = i
   ·rw [if_pos c, if_pos c]
   ·rw [if_neg c, if_neg c, if_neg c]
  show marchlandref05_closed.l1 (q + 1) _ _ _ _ _ _ = _
  rw [marchlandref05_closed.l1, if_pos (by omega), if_pos (by omega), show (Xs n i j).length = n from ls_len n _, if_pos (by omega), if_pos (by omega), r1, ls_len, if_pos (by omega), Int.toNat_natCast, Int.toNat_natCast, ls_set, s1, Option.bind_some, w64 (by omega)]
  by_cases c : i = j
  ·rw [if_pos (by omega), ls_rdL n _ hi, if_pos rfl, ls_len, if_pos (by omega), ls_set n (fun b => if b = j then 18446744073709551615 else Xr i j b) j 0, s2]
   have e : (fun b => if b = j then 0 else if b = j then (18446744073709551615 : Int) else Xr i j b) = Xr i (j + 1) := by
    funext b; unfold Xr D0
    by_cases c1 : b = j
    ·have h1 : b < j + 1 := by omega
     have h2 : i = b := by omega
     rw [if_pos c1, if_pos h1, if_pos h2]
    ·rw [if_neg c1, if_neg c1]
     by_cases c2 : b < j
     ·rw [if_pos c2, if_pos (show b < j + 1 by omega)]
     ·rw [if_neg c2, if_neg (show ¬ b < j + 1 by omega)]
   rw [e]; exact ih
  ·rw [if_neg (by omega)]
   have e : (fun b => if b = j then (18446744073709551615 : Int) else Xr i j b) = Xr i (j + 1) := by
    funext b; unfold Xr D0 N
    by_cases c1 : b = j
    ·rw [if_pos c1, if_pos (show b < j + 1 by omega), if_neg (show ¬ i = b by omega)]
    ·rw [if_neg c1]
     by_cases c2 : b < j
     ·rw [if_pos c2, if_pos (show b < j + 1 by omega)]
     ·rw [if_neg c2, if_neg (show ¬ b < j + 1 by omega)]
   rw [e]; exact ih
theorem closed_l0 (hE : WE9 n E) (hn : n ≤ 1000) (hl : E.length ≤ 1000) : ∀ d i : Nat, i + d = n → Ev (fun q => marchlandref05_closed.l0 q (Ys n i) (i : Int) (n : Int) E I) (mat n (fun a => cl (E.map ed9) a n))
 | 0, i, hi => by
  obtain rfl : i = n := by omega
  have e : Ys i i = mat i (fun a => cl (E.map ed9) a 0) := ls_congr fun a ha => if_pos ha
  obtain ⟨K, h⟩ := closed_l2 (I := I) hE hn hl i 0 (by omega)
  refine ⟨K + 1, fun q hq => ?_⟩
  obtain ⟨q, rfl⟩ : ∃ m, q = m + 1 := ⟨q - 1, by omega⟩
  show marchlandref05_closed.l0 (q + 1) _ _ _ _ _ = _
  rw [marchlandref05_closed.l0, if_neg (by omega), e]
  exact h q (by omega)
 | d + 1, i, hi => by
  have hin : i < n := by omega
  obtain ⟨K, h⟩ := closed_l1 hn hin _ (closed_l0 hE hn hl d (i + 1) (by omega)) n 0 (by omega)
  have e : (Ys n i).set i (List.replicate n 0) = Xs n i 0 := by
   unfold Ys Xs
   rw [ls_rep, ls_set]
   refine ls_congr fun a _ => ?_
   by_cases c : a = i
   ·rw [if_pos c, if_pos c]; exact ls_congr fun b _ => by unfold Xr; rw [if_neg (by omega)]
   ·rw [if_neg c, if_neg c]
  refine ⟨K + 1, fun q hq => ?_⟩
  obtain ⟨q, rfl⟩ : ∃ m, q = m + 1 := ⟨q - 1, by omega⟩
  show marchlandref05_closed.l0 (q + 1) _ _ _ _ _ = _
  rw [marchlandref05_closed.l0, if_pos (by omega), if_pos (by omega), if_pos (by omega), if_pos (by omega), show (Ys n i).length = n from ls_len n _, if_pos (by omega), Int.toNat_natCast, Int.toNat_natCast, e]
  exact h q (by omega)
end
theorem closed_ev {n : Nat} {E : List S90} (I : List Int) (hE : WE9 n E) (hn : n ≤ 1000) (hl : E.length ≤ 1000) : Ev (fun q => marchlandref05_closed.f q (n : Int) E I) (mat n (wk (E.map ed9) n)) := by
 have e : mat n (fun a => cl (E.map ed9) a n) = mat n (wk (E.map ed9) n) := mat_congr fun i j hi hj => cl_ways (we9_ok hE) hi hj
 obtain ⟨K, h⟩ := closed_l0 (I := I) hE hn hl n 0 (by omega)
 rw [e] at h
 have e2 : List.replicate n ([] : List Int) = Ys n 0 := by unfold Ys; rw [ls_rep]; exact ls_congr fun a _ => by rw [if_neg (by omega)]
 refine ⟨K, fun q hq => ?_⟩
 show marchlandref05_closed.f q (n : Int) E I = _
 unfold marchlandref05_closed.f
 rw [if_pos (by omega), if_pos (by omega), Int.toNat_natCast, e2]
 exact h q hq
structure EGood (n : Nat) (E : List S90) : Prop where
 ok : WE9 n E
 back : ∀ e ∈ E, e.f1 ≤ e.f0 → 1 ≤ e.f2
structure IGood (n : Nat) (I : List Int) : Prop where
 ok : ∀ p ∈ I, 0 ≤ p ∧ p < n
 once : I.Nodup
theorem egood_snoc {n : Nat} {E : List S90} (h : EGood n E) {x : S90} (h0 : 0 ≤ x.f0 ∧ x.f0 < n ∧ 0 ≤ x.f1 ∧ x.f1 < n ∧ In x.f2) (h1 : x.f1 ≤ x.f0 → 1 ≤ x.f2) : EGood n (E ++ [x]) := by
 refine ⟨fun e he => ?_, fun e he => ?_⟩ <;> rcases List.mem_append.1 he with he | he
 ·exact h.ok e he
 ·rw [List.mem_singleton.1 he]; exact h0
 ·exact h.back e he
 ·rw [List.mem_singleton.1 he]; exact h1
theorem igood_snoc {n : Nat} {I : List Int} (h : IGood n I) {p : Int} (h0 : 0 ≤ p ∧ p < n) (h1 : p ∉ I) : IGood n (I ++ [p]) := by
 refine ⟨fun q hq => ?_, ?_⟩
 ·rcases List.mem_append.1 hq with hq | hq
  ·exact h.ok q hq
  ·rw [List.mem_singleton.1 hq]; exact h0
 ·rw [List.nodup_append]
  exact ⟨h.once, by simp, fun a ha b hb e => h1 (by rw [← List.mem_singleton.1 hb, ← e]; exact ha)⟩
theorem modn (p : Int) {n : Nat} (h : 1 ≤ n) (h6 : n ≤ 6) : IntKind.u64.wrap (n : Int) = (n : Int) ∧ 0 ≤ Int.tmod (IntKind.u64.wrap p) (n : Int) ∧ Int.tmod (IntKind.u64.wrap p) (n : Int) < n ∧ wrap64 (Int.tmod (IntKind.u64.wrap p) (n : Int)) = Int.tmod (IntKind.u64.wrap p) (n : Int) := by
 have hp : 0 ≤ IntKind.u64.wrap p := by rw [IntKind.wrap_u64]; omega
 have h1 := Int.tmod_nonneg (n : Int) hp
 have h2 := Int.tmod_lt_of_pos (IntKind.u64.wrap p) (show (0 : Int) < n by omega)
 exact ⟨by rw [IntKind.wrap_u64]; omega, h1, h2, by unfold wrap64; omega⟩
section
variable {n : Nat} {a0 : Int} {l1 : List S90} {l2 : List Int} {E : List S90}
theorem fix5_l2 {I : List Int} {i : Nat} (hi : i < 1000) (p : Int) (hl : I.length ≤ 1000) (R : Int × List S90 × List Int) (h : Ev (fun k => marchlandref05_Fix.l1 k ((i + 1 : Nat) : Int) a0 l1 l2 (n : Int) E (if p ∈ I then I else I ++ [p])) R) :
  ∀ rest pre : List Int, I = pre ++ rest → Ev (fun k => marchlandref05_Fix.l2 k (i : Int) p (decide (p ∈ pre)) (pre.length : Int) a0 l1 l2 (n : Int) E I) R
 | [], pre, hp => by
  rw [List.append_nil] at hp
  subst hp
  obtain ⟨K, h⟩ := h
  refine ⟨K + 1, fun k hk => ?_⟩
  obtain ⟨k, rfl⟩ : ∃ m, k = m + 1 := ⟨k - 1, by omega⟩
  have h := h k (by omega)
  dsimp only at h
  show marchlandref05_Fix.l2 (k + 1) _ _ _ _ _ _ _ _ _ _ = _
  rw [marchlandref05_Fix.l2, if_neg (by omega), w64 (by omega)]
  by_cases c : p ∈ I
  ·rw [if_pos c] at h; rw [if_pos (decide_eq_true c)]; exact h
  ·rw [if_neg c] at h; rw [if_neg (by simp [c]), if_pos (by omega)]; exact h
 | x :: rest, pre, hp => by
  obtain ⟨K, ih⟩ := fix5_l2 hi p hl R h rest (pre ++ [x]) (by rw [hp]; simp)
  have hlen : pre.length + 1 ≤ I.length := by rw [hp, List.length_append, List.length_cons]; omega
  have hr : rd I (pre.length : Int) = x := by rw [hp]; simp [rd]
  refine ⟨K + 1, fun k hk => ?_⟩
  obtain ⟨k, rfl⟩ : ∃ m, k = m + 1 := ⟨k - 1, by omega⟩
  have ih := ih k (by omega)
  simp only [List.length_append, List.length_cons, List.length_nil, Nat.zero_add] at ih
  show marchlandref05_Fix.l2 (k + 1) _ _ _ _ _ _ _ _ _ _ = _
  rw [marchlandref05_Fix.l2, if_pos (by omega), hr, w64 (by omega)]
  by_cases c : p ∈ pre
  ·rw [if_pos (decide_eq_true c)]
   rw [decide_eq_true (show p ∈ pre ++ [x] from List.mem_append_left _ c)] at ih; exact ih
  ·rw [if_neg (by simp [c]), if_pos (by omega)]
   have e : decide (p ∈ pre ++ [x]) = (x == p) := by
    by_cases d : x = p
    ·subst d; simp
    ·have : ¬ p = x := fun q => d q.symm
     simp [c, d, this]
   rw [e] at ih; exact ih
theorem fix5_l1 (hn : 1 ≤ n ∧ n ≤ 6) : ∀ d i : Nat, i + d = 8 → ∀ I : List Int, IGood n I → I.length ≤ i → ∃ I' : List Int, IGood n I' ∧ I' ≠ [] ∧ I'.length ≤ 8 ∧ Ev (fun k => marchlandref05_Fix.l1 k (i : Int) a0 l1 l2 (n : Int) E I) ((n : Int), E, I') := by
 have fin : ∀ (i : Nat), i ≤ 8 → ∀ I : List Int, IGood n I → I.length ≤ i → (¬ ((i : Int) < (l2.length : Int)) ∨ ¬ ((i : Int) < 8)) → ∃ I' : List Int, IGood n I' ∧ I' ≠ [] ∧ I'.length ≤ 8 ∧ Ev (fun k => marchlandref05_Fix.l1 k (i : Int) a0 l1 l2 (n : Int) E I) ((n : Int), E, I') := by
  intro i hi I hI hl hc
  have st : ∀ k, marchlandref05_Fix.l1 (k + 2) (i : Int) a0 l1 l2 (n : Int) E I = if (I.length : Int) = 0 then some ((n : Int), E, [0]) else some ((n : Int), E, I) := by
   intro k
   rw [marchlandref05_Fix.l1]
   by_cases c : (i : Int) < (l2.length : Int)
   ·rw [if_pos c, decide_eq_false (by omega), marchlandref05_Fix.j3, if_neg (by decide)]
   ·rw [if_neg c, marchlandref05_Fix.j3, if_neg (by decide)]
  by_cases c : (I.length : Int) = 0
  ·refine ⟨[0], ⟨fun p hp => ?_, by simp⟩, by simp, by simp, 2, fun k hk => ?_⟩
   ·rw [List.mem_singleton.1 hp]; omega
   ·obtain ⟨k, rfl⟩ : ∃ m, k = m + 2 := ⟨k - 2, by omega⟩
    exact (st k).trans (if_pos c)
  ·refine ⟨I, hI, fun e => c (by rw [e]; rfl), by omega, 2, fun k hk => ?_⟩
   obtain ⟨k, rfl⟩ : ∃ m, k = m + 2 := ⟨k - 2, by omega⟩
   exact (st k).trans (if_neg c)
 intro d
 induction d with
 | zero => intro i hi I hI hl; exact fin i (by omega) I hI hl (Or.inr (by omega))
 | succ d IH =>
  intro i hi I hI hl
  by_cases c : (i : Int) < (l2.length : Int)
  ·obtain ⟨m1, m2, m3, m4⟩ := modn (rd l2 (i : Int)) hn.1 hn.2
   generalize hp : Int.tmod (IntKind.u64.wrap (rd l2 (i : Int))) (n : Int) = p at m2 m3 m4
   have hJ : IGood n (if p ∈ I then I else I ++ [p]) ∧ (if p ∈ I then I else I ++ [p]).length ≤ i + 1 := by
    by_cases q : p ∈ I
    ·rw [if_pos q]; exact ⟨hI, by omega⟩
    ·rw [if_neg q]; exact ⟨igood_snoc hI ⟨m2, m3⟩ q, by simp; omega⟩
   obtain ⟨I', g1, g2, g3, g4⟩ := IH (i + 1) (by omega) _ hJ.1 hJ.2
   refine ⟨I', g1, g2, g3, ?_⟩
   obtain ⟨K, h2⟩ := fix5_l2 (by omega) p (by omega) _ g4 I [] rfl
   refine ⟨K + 2, fun k hk => ?_⟩
   obtain ⟨k, rfl⟩ : ∃ m, k = m + 2 := ⟨k - 2, by omega⟩
   show marchlandref05_Fix.l1 (k + 2) _ _ _ _ _ _ _ = _
   rw [marchlandref05_Fix.l1, if_pos c, decide_eq_true (by omega), marchlandref05_Fix.j3, if_pos rfl, if_pos (by omega), if_pos c, m1, if_neg (by omega), hp, m4]
   exact h2 k (by omega)
  ·exact fin i (by omega) I hI hl (Or.inl c)
theorem fix5_l0 (hn : 1 ≤ n ∧ n ≤ 6) (hw : ∀ x ∈ l1, In x.f2) : ∀ d i : Nat, i + d = 12 → ∀ E : List S90, EGood n E → E.length ≤ i → ∃ (E' : List S90) (I' : List Int), EGood n E' ∧ E'.length ≤ 12 ∧ IGood n I' ∧ I' ≠ [] ∧ I'.length ≤ 8 ∧ Ev (fun k => marchlandref05_Fix.l0 k (i : Int) a0 l1 l2 (n : Int) E) ((n : Int), E', I') := by
 have fin : ∀ (i : Nat), i ≤ 12 → ∀ E : List S90, EGood n E → E.length ≤ i → (¬ ((i : Int) < (l1.length : Int)) ∨ ¬ ((i : Int) < 12)) → ∃ (E' : List S90) (I' : List Int), EGood n E' ∧ E'.length ≤ 12 ∧ IGood n I' ∧ I' ≠ [] ∧ I'.length ≤ 8 ∧ Ev (fun k => marchlandref05_Fix.l0 k (i : Int) a0 l1 l2 (n : Int) E) ((n : Int), E', I') := by
  intro i hi E hE hl hc
  obtain ⟨I', g1, g2, g3, K, g4⟩ := fix5_l1 (a0 := a0) (l1 := l1) (l2 := l2) (E := E) hn 8 0 rfl [] ⟨by simp, by simp⟩ (by simp)
  refine ⟨E, I', hE, by omega, g1, g2, g3, K + 2, fun k hk => ?_⟩
  obtain ⟨k, rfl⟩ : ∃ m, k = m + 2 := ⟨k - 2, by omega⟩
  show marchlandref05_Fix.l0 (k + 2) _ _ _ _ _ _ = _
  rw [marchlandref05_Fix.l0]
  by_cases c : (i : Int) < (l1.length : Int)
  ·rw [if_pos c, decide_eq_false (by omega), marchlandref05_Fix.j1, if_neg (by decide)]; exact g4 k (by omega)
  ·rw [if_neg c, marchlandref05_Fix.j1, if_neg (by decide)]; exact g4 k (by omega)
 intro d
 induction d with
 | zero => intro i hi E hE hl; exact fin i (by omega) E hE hl (Or.inr (by omega))
 | succ d IH =>
  intro i hi E hE hl
  by_cases c : (i : Int) < (l1.length : Int)
  ·have hx : In (rd_T90 l1 (i : Int)).f2 := by
    unfold rd_T90
    rw [Int.toNat_natCast, List.getD_eq_getElem?_getD, List.getElem?_eq_getElem (by omega), Option.getD_some]
    exact hw _ (List.getElem_mem _)
   generalize hxe : rd_T90 l1 (i : Int) = x at hx
   obtain ⟨m1, a2, a3, a4⟩ := modn x.f0 hn.1 hn.2
   obtain ⟨_, b2, b3, b4⟩ := modn x.f1 hn.1 hn.2
   have step : ∀ y : S90, EGood n (E ++ [y]) → (∀ k, marchlandref05_Fix.j1 (k + 1) (i : Int) true a0 l1 l2 (n : Int) E = marchlandref05_Fix.l0 k (((i + 1 : Nat)) : Int) a0 l1 l2 (n : Int) (E ++ [y])) → ∃ (E' : List S90) (I' : List Int), EGood n E' ∧ E'.length ≤ 12 ∧ IGood n I' ∧ I' ≠ [] ∧ I'.length ≤ 8 ∧ Ev (fun k => marchlandref05_Fix.l0 k (i : Int) a0 l1 l2 (n : Int) E) ((n : Int), E', I') := by
    intro y hy hs
    obtain ⟨E', I', g1, g2, g3, g4, g5, K, g6⟩ := IH (i + 1) (by omega) (E ++ [y]) hy (by simp; omega)
    refine ⟨E', I', g1, g2, g3, g4, g5, K + 2, fun k hk => ?_⟩
    obtain ⟨k, rfl⟩ : ∃ m, k = m + 2 := ⟨k - 2, by omega⟩
    show marchlandref05_Fix.l0 (k + 2) _ _ _ _ _ _ = _
    rw [marchlandref05_Fix.l0, if_pos c, decide_eq_true (by omega), hs]
    exact g6 k (by omega)
   by_cases c1 : Int.tmod (IntKind.u64.wrap x.f1) (n : Int) ≤ Int.tmod (IntKind.u64.wrap x.f0) (n : Int)
   ·by_cases c2 : x.f2 = 0
    ·refine step ⟨Int.tmod (IntKind.u64.wrap x.f0) (n : Int), Int.tmod (IntKind.u64.wrap x.f1) (n : Int), 1⟩ (egood_snoc hE ⟨a2, a3, b2, b3, by show In 1; unfold In N; omega⟩ (fun _ => by show (1 : Int) ≤ 1; omega)) (fun k => ?_)
     rw [marchlandref05_Fix.j1, if_pos rfl, if_pos (by omega), if_pos c, m1, if_neg (by omega), hxe, a4, b4, if_pos c1, if_pos c2, if_pos (by omega), w64 (by omega)]
    ·refine step ⟨Int.tmod (IntKind.u64.wrap x.f0) (n : Int), Int.tmod (IntKind.u64.wrap x.f1) (n : Int), x.f2⟩ (egood_snoc hE ⟨a2, a3, b2, b3, hx⟩ (fun _ => by show (1 : Int) ≤ x.f2; have := hx.1; omega)) (fun k => ?_)
     rw [marchlandref05_Fix.j1, if_pos rfl, if_pos (by omega), if_pos c, m1, if_neg (by omega), hxe, a4, b4, if_pos c1, if_neg c2, if_pos (by omega), w64 (by omega)]
   ·refine step ⟨Int.tmod (IntKind.u64.wrap x.f0) (n : Int), Int.tmod (IntKind.u64.wrap x.f1) (n : Int), x.f2⟩ (egood_snoc hE ⟨a2, a3, b2, b3, hx⟩ (fun q => absurd q c1)) (fun k => ?_)
    rw [marchlandref05_Fix.j1, if_pos rfl, if_pos (by omega), if_pos c, m1, if_neg (by omega), hxe, a4, b4, if_neg c1, if_pos (by omega), w64 (by omega)]
  ·exact fin i (by omega) E hE hl (Or.inl c)
end
theorem fix5_ev (a0 : Int) (l1 : List S90) (l2 : List Int) (hw : ∀ x ∈ l1, In x.f2) : ∃ (n : Nat) (E : List S90) (I : List Int), (1 ≤ n ∧ n ≤ 6) ∧ EGood n E ∧ E.length ≤ 12 ∧ IGood n I ∧ I ≠ [] ∧ I.length ≤ 8 ∧ Ev (fun k => marchlandref05_Fix.f k a0 l1 l2) ((n : Int), E, I) := by
 obtain ⟨m1, a2, a3, a4⟩ := modn a0 (n := 6) (by omega) (by omega)
 have e : wrap64 (1 + wrap64 (Int.tmod (IntKind.u64.wrap a0) 6)) = (((1 + Int.tmod (IntKind.u64.wrap a0) 6).toNat : Nat) : Int) := by
  have : wrap64 (Int.tmod (IntKind.u64.wrap a0) 6) = Int.tmod (IntKind.u64.wrap a0) 6 := a4
  rw [this]
  have h1 : 0 ≤ Int.tmod (IntKind.u64.wrap a0) 6 := a2
  have h2 : Int.tmod (IntKind.u64.wrap a0) 6 < 6 := a3
  unfold wrap64; omega
 have h1 : 0 ≤ Int.tmod (IntKind.u64.wrap a0) 6 := a2
 have h2 : Int.tmod (IntKind.u64.wrap a0) 6 < 6 := a3
 generalize (1 + Int.tmod (IntKind.u64.wrap a0) 6).toNat = n at e
 have hn : 1 ≤ n ∧ n ≤ 6 := by
  have : wrap64 (1 + wrap64 (Int.tmod (IntKind.u64.wrap a0) 6)) = 1 + Int.tmod (IntKind.u64.wrap a0) 6 := by
   rw [show wrap64 (Int.tmod (IntKind.u64.wrap a0) 6) = Int.tmod (IntKind.u64.wrap a0) 6 from a4]; unfold wrap64; omega
  omega
 obtain ⟨E, I, g1, g2, g3, g4, g5, K, g6⟩ := fix5_l0 (a0 := a0) (l1 := l1) (l2 := l2) hn hw 12 0 rfl [] ⟨(fun e he => by simp at he), (fun e he => by simp at he)⟩ (by simp)
 refine ⟨n, E, I, hn, g1, g2, g3, g4, g5, K, fun k hk => ?_⟩
 show marchlandref05_Fix.f k a0 l1 l2 = _
 unfold marchlandref05_Fix.f
 rw [e]
 exact g6 k hk
theorem Ev.s {α : Type} {F G : Nat → Option α} {r : α} (h : ∀ k, F (k + 1) = G k) (g : Ev G r) : Ev F r := by
 obtain ⟨K, g⟩ := g
 refine ⟨K + 1, fun k hk => ?_⟩
 obtain ⟨k, rfl⟩ : ∃ m, k = m + 1 := ⟨k - 1, by omega⟩
 rw [h]; exact g k (by omega)
theorem Ev.o {α : Type} {F : Nat → Option α} {r : α} (h : ∀ k, F (k + 1) = some r) : Ev F r := by
 refine ⟨1, fun k hk => ?_⟩
 obtain ⟨k, rfl⟩ : ∃ m, k = m + 1 := ⟨k - 1, by omega⟩
 exact h k
def c95 (x : S90) : S95 := ⟨x.f0, x.f1, x.f2⟩
theorem ed_c95 (E : List S90) : (E.map c95).map ed = E.map ed9 := by rw [List.map_map]; rfl
theorem we_c95 {n : Nat} {E : List S90} (h : WE9 n E) : WE n (E.map c95) := by
 intro e he
 obtain ⟨x, hx, rfl⟩ := List.mem_map.1 he
 exact h x hx
section
variable {n : Nat} {E : List S90} {I : List Int}
theorem to5_l0 (hl : E.length ≤ 1000) : ∀ (rest pre : List S90), E = pre ++ rest → Ev (fun k => marchlandlaw05_To.l0 k (pre.length : Int) (n : Int) E I (n : Int) (pre.map c95) I) ((n : Int), E.map c95, I)
 | [], pre, h => by
  rw [List.append_nil] at h
  subst h
  refine Ev.o (fun k => ?_)
  show marchlandlaw05_To.l0 (k + 1) _ _ _ _ _ _ _ = _
  rw [marchlandlaw05_To.l0, if_neg (by omega)]
 | x :: rest, pre, h => by
  have ih := to5_l0 hl rest (pre ++ [x]) (by rw [h]; simp)
  have hlen : pre.length + 1 ≤ E.length := by rw [h, List.length_append, List.length_cons]; omega
  have hr : rd_T90 E (pre.length : Int) = x := by rw [h]; exact rd90 pre x rest rfl
  rw [List.map_append, List.length_append] at ih
  simp only [List.map_cons, List.map_nil, List.length_cons, List.length_nil, Nat.zero_add] at ih
  refine Ev.s (fun k => ?_) ih
  show marchlandlaw05_To.l0 (k + 1) _ _ _ _ _ _ _ = _
  rw [marchlandlaw05_To.l0, if_pos (by omega), if_pos (by omega), if_pos (by rw [List.length_map]; omega), hr, w64 (by omega)]
  rfl
theorem to5_ev (hl : E.length ≤ 1000) (hI : I.length ≤ 1000) : Ev (fun k => marchlandlaw05_To.f k (n : Int) E I) ((n : Int), E.map c95, I) := by
 have h := to5_l0 (n := n) (I := I) hl E [] rfl
 refine Ev.id h (fun k => ?_)
 show _ = marchlandlaw05_To.f k (n : Int) E I
 unfold marchlandlaw05_To.f
 rw [Option.bind_some, if_pos (by simp; omega)]
 rfl
theorem has_ok {E' : List S95} {p : Int} (h0 : 0 ≤ p) (h1 : p < n) : graph_Graph_has.f (n : Int) E' I p = some true := by
 unfold graph_Graph_has.f
 rw [if_pos h0, decide_eq_true h1]
theorem edges_l0 {E : List S95} (hE : WE n E) (hl : E.length ≤ 1000) : ∀ d i : Nat, i + d = E.length → Ev (fun k => graph_Graph_edges.l0 k E (E.length : Int) (i : Int) (n : Int) E I) none
 | 0, i, h => by
  refine Ev.o (fun k => ?_)
  show graph_Graph_edges.l0 (k + 1) _ _ _ _ _ _ = _
  rw [graph_Graph_edges.l0, if_neg (by omega)]
 | d + 1, i, h => by
  have ih := edges_l0 hE hl d (i + 1) (by omega)
  have hm : rd_T95 E (i : Int) ∈ E := by
   unfold rd_T95
   rw [Int.toNat_natCast, List.getD_eq_getElem?_getD, List.getElem?_eq_getElem (by omega), Option.getD_some]
   exact List.getElem_mem _
  obtain ⟨x0, x1, x2, x3, x4⟩ := hE _ hm
  refine Ev.s (fun k => ?_) ih
  show graph_Graph_edges.l0 (k + 1) _ _ _ _ _ _ = _
  rw [graph_Graph_edges.l0, if_pos (by omega), if_pos (by omega), if_pos (by omega), has_ok x0 x1, Option.bind_some, if_pos rfl, has_ok x2 x3, Option.bind_some, if_pos rfl, w64 (by omega)]
theorem index_none {p : Int} (L : List Int) (hl : L.length ≤ 1000) (hp : p ∉ L) : ∀ d i : Nat, i + d = L.length → Ev (fun k => slices_Index_int_int.l0 k L p (L.length : Int) (i : Int)) (-1)
 | 0, i, h => by
  refine Ev.o (fun k => ?_)
  show slices_Index_int_int.l0 (k + 1) _ _ _ _ = _
  rw [slices_Index_int_int.l0, if_neg (by omega)]
 | d + 1, i, h => by
  have ih := index_none L hl hp d (i + 1) (by omega)
  have hm : rd L (i : Int) ∈ L := by
   unfold rd
   rw [Int.toNat_natCast, List.getD_eq_getElem?_getD, List.getElem?_eq_getElem (by omega), Option.getD_some]
   exact List.getElem_mem _
  refine Ev.s (fun k => ?_) ih
  show slices_Index_int_int.l0 (k + 1) _ _ _ _ = _
  rw [slices_Index_int_int.l0, if_pos (by omega), if_pos (by omega), if_pos (by omega), if_neg (fun q => hp (by rw [q]; exact hm)), w64 (by omega)]
theorem contains_none {p : Int} (L : List Int) (hl : L.length ≤ 1000) (hp : p ∉ L) : Ev (fun k => slices_Contains_int_int.f k L p) false := by
 obtain ⟨K, h⟩ := index_none L hl hp L.length 0 (by omega)
 refine ⟨K, fun k hk => ?_⟩
 show slices_Contains_int_int.f k L p = _
 unfold slices_Contains_int_int.f slices_Index_int_int.f
 have h := h k hk
 dsimp only at h
 rw [show ((0 : Nat) : Int) = 0 from rfl] at h
 rw [h]; rfl
theorem inputs_l0 {E : List S95} (hI : IGood n I) (hl : I.length ≤ 1000) : ∀ d i : Nat, i + d = I.length → Ev (fun k => graph_Graph_inputs.l0 k I (I.length : Int) (i : Int) (n : Int) E I) none
 | 0, i, h => by
  refine Ev.o (fun k => ?_)
  show graph_Graph_inputs.l0 (k + 1) _ _ _ _ _ _ = _
  rw [graph_Graph_inputs.l0, if_neg (by omega)]
 | d + 1, i, h => by
  obtain ⟨K1, ih⟩ := inputs_l0 (E := E) hI hl d (i + 1) (by omega)
  have hlt : i < I.length := by omega
  have hg : rd I (i : Int) = I[i] := by unfold rd; rw [Int.toNat_natCast, List.getD_eq_getElem?_getD, List.getElem?_eq_getElem hlt, Option.getD_some]
  have hb := hI.ok (I[i]) (List.getElem_mem _)
  have hn : I[i] ∉ I.take i := by
   intro hm
   obtain ⟨j, hj, e⟩ := List.getElem_of_mem hm
   rw [List.length_take] at hj
   rw [List.getElem_take] at e
   have := (List.getElem_inj hI.once).1 e
   omega
  obtain ⟨K2, hc⟩ := contains_none (I.take i) (by rw [List.length_take]; omega) hn
  refine ⟨K1 + K2 + 1, fun k hk => ?_⟩
  obtain ⟨k, rfl⟩ : ∃ m, k = m + 1 := ⟨k - 1, by omega⟩
  have ih := ih k (by omega); have hc := hc k (by omega); dsimp only at ih hc
  show graph_Graph_inputs.l0 (k + 1) _ _ _ _ _ _ = _
  rw [graph_Graph_inputs.l0, if_pos (by omega), if_pos (by omega), if_pos (by omega), hg, has_ok hb.1 hb.2, Option.bind_some, if_pos rfl, if_pos (by omega), Int.toNat_natCast, hc, Option.bind_some, if_neg (by decide), w64 (by omega)]
  exact ih
theorem cycle_l0 {E : List S95} {W : Mat} (hE : WE n E) (hl : E.length ≤ 1000) (hW : ∀ e ∈ E, e.f2 = 0 → W e.f1.toNat e.f0.toNat ≠ 0) : ∀ d i : Nat, i + d = E.length → Ev (fun k => graph_Graph_cycle.l0 k (mat n W) (-1) E (E.length : Int) (i : Int)) (-1)
 | 0, i, h => by
  refine Ev.o (fun k => ?_)
  show graph_Graph_cycle.l0 (k + 1) _ _ _ _ _ = _
  rw [graph_Graph_cycle.l0, if_neg (by omega)]
 | d + 1, i, h => by
  have ih := cycle_l0 hE hl hW d (i + 1) (by omega)
  have hm : rd_T95 E (i : Int) ∈ E := by
   unfold rd_T95
   rw [Int.toNat_natCast, List.getD_eq_getElem?_getD, List.getElem?_eq_getElem (by omega), Option.getD_some]
   exact List.getElem_mem _
  generalize hx : rd_T95 E (i : Int) = x at hm
  obtain ⟨x0, x1, x2, x3, x4⟩ := hE _ hm
  have hw := hW x hm
  have f0 : x.f0 = ((x.f0.toNat : Nat) : Int) := by omega
  have f1 : x.f1 = ((x.f1.toNat : Nat) : Int) := by omega
  have r1 : rd_L7 (mat n W) x.f1 = Ls n (W x.f1.toNat) := by rw [f1]; exact mat_row n W (by omega)
  have r2 : rd (Ls n (W x.f1.toNat)) x.f0 = W x.f1.toNat x.f0.toNat := by rw [f0]; exact ls_rd n _ (by omega)
  refine Ev.s (fun k => ?_) ih
  show graph_Graph_cycle.l0 (k + 1) _ _ _ _ _ = _
  rw [graph_Graph_cycle.l0, if_pos (by omega), if_pos (by omega), if_pos (by omega), hx, w64 (by omega)]
  by_cases c : x.f2 = 0
  ·rw [if_pos c, if_pos x2, mat_len, if_pos x3, if_pos x0, r1, ls_len, if_pos x1, r2, if_neg (hw c)]
  ·rw [if_neg c]
theorem paths_ev (hn : 1 ≤ n ∧ n ≤ 6) (hE : EGood n E) (hl : E.length ≤ 12) (hI : IGood n I) (hI0 : I ≠ []) (hI8 : I.length ≤ 8) : Ev (fun k => graph_Paths.f k (n : Int) (E.map c95) I) (mat n (wk (E.map ed9) n)) := by
 have hW := we_c95 hE.ok
 have hll : (E.map c95).length ≤ 12 := by rw [List.length_map]; exact hl
 obtain ⟨K1, h1⟩ := ways_ev I hW (by omega) (by omega)
 obtain ⟨K2, h2⟩ := edges_l0 (I := I) hW (by omega) (E.map c95).length 0 (by omega)
 obtain ⟨K3, h3⟩ := inputs_l0 (E := E.map c95) hI (by omega) I.length 0 (by omega)
 rw [ed_c95] at h1
 obtain ⟨K4, h4⟩ := cycle_l0 (W := wk (E.map ed9) n) hW (by omega) (fun e he h0 => by
  obtain ⟨x, hx, rfl⟩ := List.mem_map.1 he
  obtain ⟨x0, x1, x2, x3, x4⟩ := hE.ok x hx
  have hb := hE.back x hx
  have h0 : x.f2 = 0 := h0
  show wk (E.map ed9) n x.f1.toNat x.f0.toNat ≠ 0
  have hlt : x.f0.toNat < x.f1.toNat := by
   rcases Int.lt_or_le x.f0 x.f1 with q | q
   ·omega
   ·have := hb q; omega
  exact no_round (we9_ok hE.ok) (fun e he hq => by
   obtain ⟨y, hy, rfl⟩ := List.mem_map.1 he
   obtain ⟨y0, y1, y2, y3, y4⟩ := hE.ok y hy
   have hq : y.f1.toNat ≤ y.f0.toNat := hq
   exact hE.back y hy (by omega)) (by omega) (by omega) hlt) (E.map c95).length 0 (by omega)
 have hpos : 1 ≤ I.length := by cases I with | nil => exact absurd rfl hI0 | cons a l => simp
 refine ⟨K1 + K2 + K3 + K4 + 3, fun k hk => ?_⟩
 obtain ⟨k, rfl⟩ : ∃ m, k = m + 2 := ⟨k - 2, by omega⟩
 have h1a := h1 (k + 1) (by omega); have h1b := h1 (k + 2) (by omega); have h2 := h2 (k + 1) (by omega); have h3 := h3 k (by omega); have h4 := h4 (k + 1) (by omega)
 dsimp only at h1a h1b h2 h3 h4
 have e2 : graph_Graph_edges.f (k + 1) (n : Int) (E.map c95) I = some none := h2
 have e3 : graph_Graph_inputs.f (k + 1) (n : Int) (E.map c95) I = some none := by
  unfold graph_Graph_inputs.f
  rw [if_neg (by omega), graph_Graph_inputs.j0, if_neg (by simp; omega)]
  exact h3
 have e4 : graph_Graph_cycle.f (k + 1) (n : Int) (E.map c95) I (mat n (wk (E.map ed9) n)) = some (-1) := h4
 have ec : graph_Check.f (k + 2) (n : Int) (E.map c95) I = some none := by
  unfold graph_Check.f
  rw [if_neg (by omega), decide_eq_false (by omega), graph_Check.j0, if_neg (by decide), if_neg (by omega), e2, Option.bind_some, if_pos (show (none : Option Int).isNone = true from rfl), e3, Option.bind_some, if_pos (show (none : Option Int).isNone = true from rfl), h1a, Option.bind_some, e4, Option.bind_some, if_neg (by decide)]
 show graph_Paths.f (k + 2) _ _ _ = _
 unfold graph_Paths.f
 rw [ec, Option.bind_some, if_pos (show (none : Option Int).isNone = true from rfl), h1b, Option.bind_some]
end
section
variable {n : Nat} {E : List S90} {I : List Int}
theorem mem90 {E : List S90} {i : Nat} (h : i < E.length) : rd_T90 E (i : Int) ∈ E := by
 unfold rd_T90
 rw [Int.toNat_natCast, List.getD_eq_getElem?_getD, List.getElem?_eq_getElem h, Option.getD_some]
 exact List.getElem_mem _
theorem rcheck_l4 {W : Mat} (hn : n ≤ 1000) (hE : WE9 n E) (hl : E.length ≤ 1000) (hW : ∀ e ∈ E, e.f2 = 0 → W e.f1.toNat e.f0.toNat ≠ 0) {p : Nat} (hp : p < n) (R : List S124 × Int) (h : Ev (fun k => marchlandref05_Check.l3 k (mat n W) ((p + 1 : Nat) : Int) (n : Int) E I) R) :
  ∀ d i : Nat, i + d = E.length → Ev (fun k => marchlandref05_Check.l4 k (mat n W) (p : Int) (i : Int) (n : Int) E I) R
 | 0, i, hi => by
  refine Ev.s (fun k => ?_) h
  show marchlandref05_Check.l4 (k + 1) _ _ _ _ _ _ = _
  rw [marchlandref05_Check.l4, if_neg (by omega), w64 (by omega)]
 | d + 1, i, hi => by
  have ih := rcheck_l4 hn hE hl hW hp R h d (i + 1) (by omega)
  have hm := mem90 (E := E) (i := i) (by omega)
  generalize hx : rd_T90 E (i : Int) = x at hm
  obtain ⟨x0, x1, x2, x3, x4⟩ := hE _ hm
  have hw := hW x hm
  have f1 : x.f1 = ((x.f1.toNat : Nat) : Int) := by omega
  have r1 : rd_L7 (mat n W) x.f1 = Ls n (W x.f1.toNat) := by rw [f1]; exact mat_row n W (by omega)
  refine Ev.s (fun k => ?_) ih
  show marchlandref05_Check.l4 (k + 1) _ _ _ _ _ _ = _
  rw [marchlandref05_Check.l4, if_pos (by omega), if_pos (by omega), hx, w64 (by omega)]
  by_cases c0 : x.f0 = (p : Int)
  ·rw [if_pos c0]
   by_cases c : x.f2 = 0
   ·have hw := hw c
    rw [show x.f0.toNat = p by omega] at hw
    rw [if_pos c, if_pos x2, mat_len, if_pos x3, if_pos (by omega), r1, ls_len, if_pos (by omega), ls_rd n _ hp, if_neg hw]
   ·rw [if_neg c]
  ·rw [if_neg c0]
theorem rcheck_l3 {W : Mat} (hn : n ≤ 1000) (hE : WE9 n E) (hl : E.length ≤ 1000) (hW : ∀ e ∈ E, e.f2 = 0 → W e.f1.toNat e.f0.toNat ≠ 0) : ∀ d p : Nat, p + d = n → Ev (fun k => marchlandref05_Check.l3 k (mat n W) (p : Int) (n : Int) E I) ([], 0)
 | 0, p, hp => by
  refine Ev.o (fun k => ?_)
  show marchlandref05_Check.l3 (k + 1) _ _ _ _ _ = _
  rw [marchlandref05_Check.l3, if_neg (by omega)]
 | d + 1, p, hp => by
  have h4 := rcheck_l4 hn hE hl hW (show p < n by omega) _ (rcheck_l3 hn hE hl hW d (p + 1) (by omega)) E.length 0 (by omega)
  refine Ev.s (fun k => ?_) h4
  show marchlandref05_Check.l3 (k + 1) _ _ _ _ _ = _
  rw [marchlandref05_Check.l3, if_pos (by omega)]
  rfl
theorem rcheck_l2 (hI : IGood n I) (hl : I.length ≤ 1000) {i : Nat} (hi : i < I.length) (R : List S124 × Int) (h : Ev (fun k => marchlandref05_Check.l1 k ((i + 1 : Nat) : Int) (n : Int) E I) R) : ∀ d j : Nat, j + d = i → Ev (fun k => marchlandref05_Check.l2 k (i : Int) (j : Int) (n : Int) E I) R
 | 0, j, hj => by
  refine Ev.s (fun k => ?_) h
  show marchlandref05_Check.l2 (k + 1) _ _ _ _ _ = _
  rw [marchlandref05_Check.l2, if_neg (by omega), w64 (by omega)]
 | d + 1, j, hj => by
  have ih := rcheck_l2 hI hl hi R h d (j + 1) (by omega)
  have g : ∀ {q : Nat} (hq : q < I.length), rd I (q : Int) = I[q] := fun hq => by unfold rd; rw [Int.toNat_natCast, List.getD_eq_getElem?_getD, List.getElem?_eq_getElem hq, Option.getD_some]
  have hne : ¬ I[j] = I[i] := fun e => by
   have := (List.getElem_inj hI.once).1 e
   omega
  refine Ev.s (fun k => ?_) ih
  show marchlandref05_Check.l2 (k + 1) _ _ _ _ _ = _
  rw [marchlandref05_Check.l2, if_pos (by omega), if_pos (by omega), if_pos (by omega), if_pos (by omega), if_pos (by omega), g hi, g (by omega), if_neg hne, w64 (by omega)]
theorem rcheck_l1 (hI : IGood n I) (hl : I.length ≤ 1000) (R : List S124 × Int) (h : Ev (fun k => (marchlandref05_closed.f k (n : Int) E I).bind fun t => marchlandref05_Check.l3 k t 0 (n : Int) E I) R) : ∀ d i : Nat, i + d = I.length → Ev (fun k => marchlandref05_Check.l1 k (i : Int) (n : Int) E I) R
 | 0, i, hi => by
  refine Ev.s (fun k => ?_) h
  show marchlandref05_Check.l1 (k + 1) _ _ _ _ = _
  rw [marchlandref05_Check.l1, if_neg (by omega)]
 | d + 1, i, hi => by
  have hlt : i < I.length := by omega
  have hg : rd I (i : Int) = I[i] := by unfold rd; rw [Int.toNat_natCast, List.getD_eq_getElem?_getD, List.getElem?_eq_getElem hlt, Option.getD_some]
  have hb := hI.ok (I[i]) (List.getElem_mem _)
  have h2 := rcheck_l2 hI hl hlt R (rcheck_l1 hI hl R h d (i + 1) (by omega)) i 0 (by omega)
  obtain ⟨K, h2⟩ := h2
  refine ⟨K + 2, fun k hk => ?_⟩
  obtain ⟨k, rfl⟩ : ∃ m, k = m + 2 := ⟨k - 2, by omega⟩
  show marchlandref05_Check.l1 (k + 2) _ _ _ _ = _
  rw [marchlandref05_Check.l1, if_pos (by omega), if_pos (by omega), hg, if_neg (by omega), decide_eq_false (by omega), marchlandref05_Check.j5, if_neg (by decide)]
  exact h2 k (by omega)
theorem rcheck_l0 (hE : WE9 n E) (hl : E.length ≤ 1000) (hI1 : 1 ≤ I.length) (hI8 : I.length ≤ 8) (R : List S124 × Int) (h : Ev (fun k => marchlandref05_Check.l1 k 0 (n : Int) E I) R) : ∀ d i : Nat, i + d = E.length → Ev (fun k => marchlandref05_Check.l0 k (i : Int) (n : Int) E I) R
 | 0, i, hi => by
  obtain ⟨K, h⟩ := h
  refine ⟨K + 2, fun k hk => ?_⟩
  obtain ⟨k, rfl⟩ : ∃ m, k = m + 2 := ⟨k - 2, by omega⟩
  show marchlandref05_Check.l0 (k + 2) _ _ _ _ = _
  rw [marchlandref05_Check.l0, if_neg (by omega), if_neg (by omega), decide_eq_false (by omega), marchlandref05_Check.j3, if_neg (by decide)]
  exact h k (by omega)
 | d + 1, i, hi => by
  have hm := mem90 (E := E) (i := i) (by omega)
  generalize hx : rd_T90 E (i : Int) = x at hm
  obtain ⟨x0, x1, x2, x3, x4⟩ := hE _ hm
  obtain ⟨K, ih⟩ := rcheck_l0 hE hl hI1 hI8 R h d (i + 1) (by omega)
  refine ⟨K + 2, fun k hk => ?_⟩
  obtain ⟨k, rfl⟩ : ∃ m, k = m + 2 := ⟨k - 2, by omega⟩
  show marchlandref05_Check.l0 (k + 2) _ _ _ _ = _
  rw [marchlandref05_Check.l0, if_pos (by omega), if_pos (by omega), hx, if_neg (by omega), decide_eq_false (by omega), marchlandref05_Check.j2, if_neg (by decide), if_pos (by omega), if_pos (by omega), hx, if_neg (by omega), if_neg (by omega), w64 (by omega)]
  exact ih k (by omega)
theorem rpaths_ev (hn : 1 ≤ n ∧ n ≤ 6) (hE : EGood n E) (hl : E.length ≤ 12) (hI : IGood n I) (hI0 : I ≠ []) (hI8 : I.length ≤ 8) : Ev (fun k => marchlandref05_Paths.f k (n : Int) E I) (mat n (wk (E.map ed9) n)) := by
 have hc := closed_ev I hE.ok (by omega) (by omega)
 have hpos : 1 ≤ I.length := by cases I with | nil => exact absurd rfl hI0 | cons a l => simp
 have hz : ∀ x ∈ E, x.f2 = 0 → wk (E.map ed9) n x.f1.toNat x.f0.toNat ≠ 0 := fun x hx h0 => by
  obtain ⟨x0, x1, x2, x3, x4⟩ := hE.ok x hx
  have hb := hE.back x hx
  have hlt : x.f0.toNat < x.f1.toNat := by
   rcases Int.lt_or_le x.f0 x.f1 with q | q
   ·omega
   ·have := hb q; omega
  exact no_round (we9_ok hE.ok) (fun e he hq => by
   obtain ⟨y, hy, rfl⟩ := List.mem_map.1 he
   obtain ⟨y0, y1, y2, y3, y4⟩ := hE.ok y hy
   have hq : y.f1.toNat ≤ y.f0.toNat := hq
   exact hE.back y hy (by omega)) (by omega) (by omega) hlt
 have h3 := rcheck_l3 (I := I) (W := wk (E.map ed9) n) (by omega) hE.ok (by omega) hz n 0 (by omega)
 have h1 := rcheck_l1 hI (by omega) _ (Ev.bind (f := fun k t => marchlandref05_Check.l3 k t 0 (n : Int) E I) hc h3) I.length 0 (by omega)
 obtain ⟨K1, h0⟩ := rcheck_l0 hE.ok (by omega) hpos hI8 _ h1 E.length 0 (by omega)
 obtain ⟨K2, hc⟩ := hc
 refine ⟨K1 + K2 + 1, fun k hk => ?_⟩
 obtain ⟨k, rfl⟩ : ∃ m, k = m + 1 := ⟨k - 1, by omega⟩
 have h0 := h0 k (by omega); have hc := hc (k + 1) (by omega); dsimp only at h0 hc
 have e : marchlandref05_Check.f (k + 1) (n : Int) E I = some ([], 0) := by
  unfold marchlandref05_Check.f
  rw [if_neg (by omega), decide_eq_false (by omega), marchlandref05_Check.j0, if_neg (by decide), if_neg (by omega)]
  exact h0
 show marchlandref05_Paths.f (k + 1) _ _ _ = _
 unfold marchlandref05_Paths.f
 rw [e, Option.bind_some, if_pos rfl, hc, Option.bind_some]
end
theorem same6_l0 (A : List Int) (hl : A.length ≤ 1000) : ∀ d i : Nat, i + d = A.length → Ev (fun k => marchlandref06_Same.l0 k A A (i : Int)) true
 | 0, i, h => by
  refine Ev.o (fun k => ?_)
  show marchlandref06_Same.l0 (k + 1) _ _ _ = _
  rw [marchlandref06_Same.l0, if_neg (by omega)]
 | d + 1, i, h => by
  refine Ev.s (fun k => ?_) (same6_l0 A hl d (i + 1) (by omega))
  show marchlandref06_Same.l0 (k + 1) _ _ _ = _
  rw [marchlandref06_Same.l0, if_pos (by omega), if_pos (by omega), if_pos (by omega), if_pos rfl, w64 (by omega)]
theorem same6_ev (A : List Int) (hl : A.length ≤ 1000) : Ev (fun k => marchlandref06_Same.f k A A) true := by
 refine Ev.id (same6_l0 A hl A.length 0 (by omega)) (fun k => ?_)
 unfold marchlandref06_Same.f
 rw [if_pos rfl]; rfl
theorem rows_l1 {n : Nat} {M : Mat} (hn : n ≤ 1000) {i : Nat} (hi : i < n) (R : Bool) (h : Ev (fun k => marchlandlaw05_Rows.l0 k (mat n M) (mat n M) ((i + 1 : Nat) : Int)) R) : ∀ d j : Nat, j + d = n → Ev (fun k => marchlandlaw05_Rows.l1 k (mat n M) (mat n M) (i : Int) (j : Int)) R
 | 0, j, hj => by
  refine Ev.s (fun k => ?_) h
  show marchlandlaw05_Rows.l1 (k + 1) _ _ _ _ = _
  rw [marchlandlaw05_Rows.l1, if_pos (by omega), mat_len, if_pos (by omega), mat_row n M hi, ls_len, if_neg (by omega), w64 (by omega)]
 | d + 1, j, hj => by
  refine Ev.s (fun k => ?_) (rows_l1 hn hi R h d (j + 1) (by omega))
  show marchlandlaw05_Rows.l1 (k + 1) _ _ _ _ = _
  rw [marchlandlaw05_Rows.l1, if_pos (by omega), mat_len, if_pos (by omega), mat_row n M hi, ls_len, if_pos (by omega), if_pos (by omega), if_pos (by omega), if_pos (by omega), if_pos rfl, w64 (by omega)]
theorem rows_l0 {n : Nat} {M : Mat} (hn : n ≤ 1000) : ∀ d i : Nat, i + d = n → Ev (fun k => marchlandlaw05_Rows.l0 k (mat n M) (mat n M) (i : Int)) true
 | 0, i, h => by
  refine Ev.o (fun k => ?_)
  show marchlandlaw05_Rows.l0 (k + 1) _ _ _ = _
  rw [marchlandlaw05_Rows.l0, mat_len, if_neg (by omega)]
 | d + 1, i, h => by
  have hi : i < n := by omega
  refine Ev.s (fun k => ?_) (rows_l1 (M := M) hn hi true (rows_l0 (M := M) hn d (i + 1) (by omega)) n 0 (by omega))
  show marchlandlaw05_Rows.l0 (k + 1) _ _ _ = _
  rw [marchlandlaw05_Rows.l0, mat_len, if_pos (by omega), if_pos (by omega), if_pos (by omega), if_pos rfl]
  rfl
theorem rows_ev {n : Nat} (M : Mat) (hn : n ≤ 1000) : Ev (fun k => marchlandlaw05_Rows.f k (mat n M) (mat n M)) true := by
 refine Ev.id (rows_l0 (M := M) hn n 0 (by omega)) (fun k => ?_)
 unfold marchlandlaw05_Rows.f
 rw [if_pos rfl]; rfl
open Go.RowKit Go.Proofs.Ytgeldmhgbnamcaa.P Go.Proofs.YtgeldmhgbnamcaaW.PrintWords Go.Proofs.YtgeldmhgbnamcaaW.PrintLast
theorem set5 (p : List S50) (x : S50) (q : List S50) (y : S50) {n : Nat} (h : n = p.length) : (p ++ x :: q).set n y = p ++ y :: q := by subst h; simp
theorem ke_comm {a b : S50} : ke a b ↔ ke b a := by unfold ke; omega
theorem good_cons {c : S50} {G : List S50} : good (c :: G) = (decide (wi c.f2) && good G) := by simp [good]
theorem fin_cons {c : S50} {G : List S50} : fin (c :: G) = fin [c] ++ fin G := by simp only [fin, List.filter_cons]; split <;> simp
theorem fin_len (G : List S50) : (fin G).length ≤ G.length := List.length_filter_le _ _
deriving instance DecidableEq for S50
theorem to_l0 (X : List S50) (hl : Short X.length) : ∀ (r pre : List S50), X = pre ++ r → Ev (fun k => marchlandlaw03_To.l0 k (X.map v) pre (pre.length : Int)) X := by
 unfold Short at hl
 intro r
 induction r with
 | nil =>
  intro pre e
  refine ⟨1, fun k hk => ?_⟩
  obtain ⟨k, rfl⟩ : ∃ m, k = m + 1 := ⟨k - 1, by omega⟩
  show marchlandlaw03_To.l0 (k + 1) _ _ _ = _
  rw [marchlandlaw03_To.l0, if_neg (by subst e; simp)]
  simp [e]
 | cons x r ih =>
  intro pre e
  obtain ⟨K1, h1⟩ := ih (pre ++ [x]) (by simp [e])
  refine ⟨K1 + 1, fun k hk => ?_⟩
  obtain ⟨k, rfl⟩ : ∃ m, k = m + 1 := ⟨k - 1, by omega⟩
  have h1 := h1 k (by omega); dsimp only at h1
  have ll : X.length = pre.length + (r.length + 1) := by rw [e]; simp
  have lm : (X.map v).length = X.length := by simp
  have e1 : rd_T40 (X.map v) (pre.length : Int) = v x := by rw [e, List.map_append]; exact rd4 _ _ _ (by simp)
  have ew : wrap64 ((pre.length : Int) + 1) = ((pre ++ [x]).length : Int) := by rw [w64s (by omega)]; simp
  show marchlandlaw03_To.l0 (k + 1) _ _ _ = _
  rw [marchlandlaw03_To.l0, if_pos (by omega), if_pos (by omega), if_pos (by omega), e1, ew]
  exact h1
theorem to_ev (X : List S50) (hl : Short X.length) : Ev (fun k => marchlandlaw03_To.f k (X.map v)) X := to_l0 X hl X [] rfl
theorem rd4m (p : List S50) (x : S50) (q : List S50) {i : Int} (h : i = p.length) : rd_T40 ((p ++ x :: q).map v) i = v x := by rw [List.map_append]; exact rd4 _ _ _ (by simp [h])
theorem set4m (p : List S50) (x : S50) (q : List S50) (y : S50) {n : Nat} (h : n = p.length) : ((p ++ x :: q).map v).set n (v y) = (p ++ y :: q).map v := by subst h; simp [List.map_append, List.set_append]
theorem sums_l3 (G : List S50) (hl : Short G.length) : ∀ (r pre acc : List S50), G = pre ++ r → acc.length ≤ pre.length →
  Ev (fun k => marchlandref03_sums.l3 k (G.map v) (acc.map v) (pre.length : Int)) (if good r = true then ((acc ++ fin r).map v, true) else ([], false)) := by
 unfold Short at hl
 intro r
 induction r with
 | nil =>
  intro pre acc e ha
  refine ⟨1, fun k hk => ?_⟩
  obtain ⟨k, rfl⟩ : ∃ m, k = m + 1 := ⟨k - 1, by omega⟩
  show marchlandref03_sums.l3 (k + 1) _ _ _ = _
  rw [marchlandref03_sums.l3, if_neg (by subst e; simp)]
  simp [good, fin]
 | cons x r ih =>
  intro pre acc e ha
  obtain ⟨K1, h1⟩ := ih (pre ++ [x]) (acc ++ fin [x]) (by simp [e]) (by have := fin_len [x]; simp at this ⊢; omega)
  refine ⟨K1 + 1, fun k hk => ?_⟩
  obtain ⟨k, rfl⟩ : ∃ m, k = m + 1 := ⟨k - 1, by omega⟩
  have h1 := h1 k (by omega); dsimp only at h1
  have ll : G.length = pre.length + (r.length + 1) := by rw [e]; simp
  have lm : (G.map v).length = G.length := by simp
  have lc : (acc.map v).length = acc.length := by simp
  have e1 : rd_T40 (G.map v) (pre.length : Int) = v x := by rw [e]; exact rd4m _ _ _ rfl
  have ew : wrap64 ((pre.length : Int) + 1) = ((pre ++ [x]).length : Int) := by rw [w64s (by omega)]; simp
  show marchlandref03_sums.l3 (k + 1) _ _ _ = _
  rw [marchlandref03_sums.l3, if_pos (by omega), if_pos (by omega), e1, within3_eq, Option.bind_some, good_cons, fin_cons, ew]
  by_cases hc : wi x.f2
  ·rw [if_pos (show decide (wi (v x).f2) = true from decide_eq_true hc)]
   simp only [hc, decide_true, Bool.true_and, ← List.append_assoc]
   by_cases hz : x.f2 = 0
   ·rw [if_pos (show (v x).f2 = 0 from hz)]
    have : fin [x] = [] := by simp [fin, hz]
    rw [this, List.append_nil] at h1 ⊢
    exact h1
   ·rw [if_neg (show ¬ (v x).f2 = 0 from hz), if_pos (by omega)]
    have : fin [x] = [x] := by simp [fin, hz]
    rw [this] at h1 ⊢
    have em : acc.map v ++ [(⟨(v x).f0, (v x).f1, (v x).f2⟩ : S40)] = (acc ++ [x]).map v := by simp [v]
    rw [em]; exact h1
  ·rw [if_neg (show ¬ decide (wi (v x).f2) = true from fun h => hc (of_decide_eq_true h))]
   simp [hc]
theorem ins_head {x : S50} {B : List S50} (h : ∀ b ∈ B, kl x b) : ins x B = x :: B := by
 cases B with
 | nil => rfl
 | cons b B =>
  have h := h b (by simp)
  have : ¬ ke b x := by unfold kl ke at *; omega
  simp [ins, this, h]
theorem sums_l2 (X' : List S40) (i : Int) {r : List S40 × Bool} : ∀ (n : Nat) (A : List S50) (x : S50) (B : List S50), A.length = n → n ≤ 8000000000000000000 → Str (A ++ B) → (∀ b ∈ B, kl x b) → (∀ a ∈ A, ¬ ke a x) →
  Ev (fun k => marchlandref03_sums.l0 k X' ((ins x (A ++ B)).map v) (wrap64 (i + 1))) r → Ev (fun k => marchlandref03_sums.l2 k X' ((A ++ x :: B).map v) i (n : Int)) r := by
 intro n
 induction n with
 | zero =>
  intro A x B hA hn hs hB hk h
  obtain rfl : A = [] := List.eq_nil_of_length_eq_zero hA
  refine Ev.step (fun k => ?_) h
  show marchlandref03_sums.l2 (k + 1) _ _ _ _ = _
  rw [marchlandref03_sums.l2, if_neg (by simp)]
  simp only [List.nil_append, ins_head hB]
 | succ n ih =>
  intro A x B hA hn hs hB hk h
  rcases List.eq_nil_or_concat A with rfl | ⟨A', y, rfl⟩
  ·simp at hA
  simp only [List.concat_eq_append] at hA hs hk h ⊢
  have hA' : A'.length = n := by simpa using hA
  have eL : A' ++ [y] ++ x :: B = A' ++ y :: x :: B := by simp
  have lL : ((A' ++ y :: x :: B).map v).length = n + 2 + B.length := by simp; omega
  have ew : wrap64 (((n + 1 : Nat) : Int) - 1) = (n : Int) := w64p (by omega)
  have e1 : rd_T40 ((A' ++ y :: x :: B).map v) ((n + 1 : Nat) : Int) = v x := by
   have := rd4m (A' ++ [y]) x B (i := ((n + 1 : Nat) : Int)) (by simp; omega)
   simpa using this
  have e2 : rd_T40 ((A' ++ y :: x :: B).map v) (n : Int) = v y := rd4m A' y (x :: B) (by omega)
  by_cases hc : kl x y
  ·obtain ⟨K, h1⟩ := ih A' x (y :: B) hA' (by omega) (by simpa using hs) (fun b hb => (List.mem_cons.1 hb).elim (fun e => e ▸ hc) (fun hb => hB b hb)) (fun a ha => hk a (by simp [ha])) (by simpa using h)
   refine ⟨K + 1, fun k hk => ?_⟩
   obtain ⟨k, rfl⟩ : ∃ m, k = m + 1 := ⟨k - 1, by omega⟩
   have h1 := h1 k (by omega); dsimp only at h1
   have s1 : ((A' ++ y :: x :: B).map v).set (n : Int).toNat (v x) = (A' ++ x :: x :: B).map v := set4m A' y (x :: B) x (by simp; omega)
   have s2 : ((A' ++ x :: x :: B).map v).set ((n + 1 : Nat) : Int).toNat (v y) = (A' ++ x :: y :: B).map v := by
    have := set4m (A' ++ [x]) x B y (n := ((n + 1 : Nat) : Int).toNat) (by simp; omega)
    simpa using this
   show marchlandref03_sums.l2 (k + 1) _ _ _ _ = _
   rw [marchlandref03_sums.l2, eL, ew, if_pos (by omega), if_pos (by omega), if_pos (by omega), if_pos (by omega), if_pos (by omega), e1, e2]
   rw [show marchlandref03_before.f (v x).f0 (v x).f1 (v x).f2 (v y).f0 (v y).f1 (v y).f2 = some (decide (kl x y)) from before_eq x y, Option.bind_some, if_pos (decide_eq_true hc)]
   rw [show (⟨(v x).f0, (v x).f1, (v x).f2⟩ : S40) = v x from rfl, show (⟨(v y).f0, (v y).f1, (v y).f2⟩ : S40) = v y from rfl, s1, s2]
   exact h1
  ·have hyx : kl y x := (kl_tri x y).elim (fun h => absurd h hc) (fun h => h.elim (fun h => absurd (ke_comm.1 h) (hk y (by simp))) id)
   have hall : ∀ a ∈ A' ++ [y], kl a x := fun a ha => by
    rcases List.mem_append.1 ha with ha | ha
    ·exact kl_trans ((List.pairwise_append.1 (List.pairwise_append.1 hs).1).2.2 a ha y (by simp)) hyx
    ·simp at ha; subst ha; exact hyx
   rw [ins_app B hall, ins_head hB] at h
   refine Ev.step (fun k => ?_) h
   show marchlandref03_sums.l2 (k + 1) _ _ _ _ = _
   rw [marchlandref03_sums.l2, eL, ew, if_pos (by omega), if_pos (by omega), if_pos (by omega), if_pos (by omega), if_pos (by omega), e1, e2]
   rw [show marchlandref03_before.f (v x).f0 (v x).f1 (v x).f2 (v y).f0 (v y).f1 (v y).f2 = some (decide (kl x y)) from before_eq x y, Option.bind_some, if_neg (fun h => hc (of_decide_eq_true h))]
theorem sums_skip {X' : List S40} {i : Int} {x : S50} (hi : 0 ≤ i) (hi' : i < X'.length) (hx : rd_T40 X' i = v x) {c : Int} {r : List S40 × Bool} (C : List S50) : ∀ (B A : List S50), (∀ y ∈ B, ¬ ke y x) → A.length + B.length ≤ 8000000000000000000 →
  Ev (fun k => marchlandref03_sums.l1 k X' ((A ++ B ++ C).map v) i c ((A.length + B.length : Nat) : Int)) r → Ev (fun k => marchlandref03_sums.l1 k X' ((A ++ B ++ C).map v) i c (A.length : Int)) r := by
 intro B
 induction B with
 | nil => intro A _ _ h; simpa using h
 | cons y B ih =>
  intro A hB hl h
  simp only [List.length_cons] at hl
  have hy := hB y (by simp)
  obtain ⟨K, h1⟩ := ih (A ++ [y]) (fun z hz => hB z (by simp [hz])) (by simp; omega) (by
   have e : (A ++ [y]).length + B.length = A.length + (y :: B).length := by simp; omega
   rw [e]; simpa using h)
  refine ⟨K + 1, fun k hk => ?_⟩
  obtain ⟨k, rfl⟩ : ∃ m, k = m + 1 := ⟨k - 1, by omega⟩
  have h1 := h1 k (by omega); dsimp only at h1
  have eL : A ++ [y] ++ B ++ C = A ++ y :: B ++ C := by simp
  have lL : ((A ++ y :: B ++ C).map v).length = A.length + (B.length + 1) + C.length := by simp; omega
  have e1 : rd_T40 ((A ++ y :: B ++ C).map v) (A.length : Int) = v y := by
   have := rd4m A y (B ++ C) (i := (A.length : Int)) rfl
   simpa using this
  have ew : wrap64 ((A.length : Int) + 1) = ((A ++ [y]).length : Int) := by rw [w64s (by omega)]; simp
  rw [eL] at h1
  show marchlandref03_sums.l1 (k + 1) _ _ _ _ _ = _
  rw [marchlandref03_sums.l1, if_pos (by omega), if_pos (by omega), if_pos hi, if_pos hi', e1, hx, ew, h1]
  by_cases q0 : (v y).f0 = (v x).f0
  ·have q1 : ¬ (v y).f1 = (v x).f1 := fun q1 => hy ⟨q0, q1⟩
   rw [if_pos q0, if_neg q1]
  ·rw [if_neg q0]
theorem mem_split_ke {x : S50} : ∀ {G : List S50}, (∃ y ∈ G, ke y x) → Str G → ∃ A y B, G = A ++ y :: B ∧ ke y x ∧ (∀ a ∈ A, ¬ ke a x) ∧ (∀ b ∈ B, ¬ ke b x) ∧ (∀ a ∈ A, kl a x) := by
 intro G ⟨y, hy, k⟩ hs
 obtain ⟨A, B, rfl⟩ := List.append_of_mem hy
 obtain ⟨h1, h2, h3⟩ := List.pairwise_append.1 hs
 refine ⟨A, y, B, rfl, k, fun a ha => ?_, fun b hb => ?_, fun a ha => ?_⟩
 ·have := h3 a ha y (by simp); unfold kl ke at *; omega
 ·have := (List.pairwise_cons.1 h2).1 b hb; unfold kl ke at *; omega
 ·have := h3 a ha y (by simp); unfold kl ke at *; omega
theorem sums_step {X' : List S40} {i : Int} {x : S50} (hi : 0 ≤ i) (hi' : i < X'.length) (hx : rd_T40 X' i = v x) {r : List S40 × Bool} {G : List S50} (hs : Str G) (hl : Short G.length)
  (h : Ev (fun k => marchlandref03_sums.l0 k X' ((ins x G).map v) (wrap64 (i + 1))) r) : Ev (fun k => marchlandref03_sums.l1 k X' (G.map v) i (-1) 0) r := by
 unfold Short at hl
 by_cases hk : ∃ y ∈ G, ke y x
 ·obtain ⟨A, y, B, rfl, ky, hA, hB, hAl⟩ := mem_split_ke hk hs
  have hl' : A.length + (B.length + 1) ≤ 5864062014634 := by simpa using hl
  have ei : ins x (A ++ y :: B) = A ++ plus y x :: B := by rw [ins_app _ hAl]; simp [ins, ky]
  rw [ei] at h
  have lL : ((A ++ y :: B).map v).length = A.length + (B.length + 1) := by simp
  have e1 : rd_T40 ((A ++ y :: B).map v) (A.length : Int) = v y := rd4m A y B rfl
  have ew : wrap64 ((A.length : Int) + 1) = ((A ++ [y]).length : Int) := by rw [w64s (by omega)]; simp
  have h1 := sums_skip hi hi' hx (c := -1) (r := r) (y :: B) A [] hA (by simp; omega)
  simp only [List.nil_append, List.length_nil, Nat.zero_add] at h1
  refine h1 ?_
  have h2 := sums_skip hi hi' hx (c := (A.length : Int)) (r := r) [] B (A ++ [y]) hB (by simp; omega)
  simp only [List.append_nil, List.append_assoc, List.singleton_append] at h2
  suffices h3 : Ev (fun k => marchlandref03_sums.l1 k X' ((A ++ y :: B).map v) i (A.length : Int) (((A ++ [y]).length + B.length : Nat) : Int)) r by
   obtain ⟨K, h2⟩ := h2 h3
   refine ⟨K + 1, fun k hk => ?_⟩
   obtain ⟨k, rfl⟩ : ∃ m, k = m + 1 := ⟨k - 1, by omega⟩
   have h2 := h2 k (by omega); dsimp only at h2
   show marchlandref03_sums.l1 (k + 1) _ _ _ _ _ = _
   rw [marchlandref03_sums.l1, if_pos (by omega), if_pos (by omega), if_pos hi, if_pos hi', e1, hx, ew, if_pos (show (v y).f0 = (v x).f0 from ky.1), if_pos (show (v y).f1 = (v x).f1 from ky.2)]
   exact h2
  have s1 : ((A ++ y :: B).map v).set (A.length : Int).toNat ⟨(v y).f0, (v y).f1, wrap64 ((v y).f2 + (v x).f2)⟩ = (A ++ plus y x :: B).map v := set4m A y B (plus y x) (by simp)
  refine Ev.step (fun k => ?_) h
  show marchlandref03_sums.l1 (k + 1) _ _ _ _ _ = _
  rw [marchlandref03_sums.l1, if_neg (by simp; omega), if_pos (by omega), if_pos (by omega), if_pos (by omega), if_pos hi, if_pos hi', e1, hx, s1]
 ·have hk' : ∀ y ∈ G, ¬ ke y x := fun y hy h => hk ⟨y, hy, h⟩
  have h1 := sums_skip hi hi' hx (c := -1) (r := r) [] G [] hk' (by simp; omega)
  simp only [List.nil_append, List.length_nil, Nat.zero_add, List.append_nil] at h1
  refine h1 ?_
  have h2 := sums_l2 X' i (r := r) G.length G x [] rfl (by omega) (by simpa using hs) (fun _ h => by cases h) hk' (by simpa using h)
  have e2 : (G.map v) ++ [(⟨(v x).f0, (v x).f1, (v x).f2⟩ : S40)] = (G ++ [x]).map v := by simp [v]
  refine Ev.step (fun k => ?_) h2
  show marchlandref03_sums.l1 (k + 1) _ _ _ _ _ = _
  have ew : wrap64 ((((G ++ [x]).map v).length : Int) - 1) = (G.length : Int) := by rw [show ((G ++ [x]).map v).length = G.length + 1 by simp]; exact w64p (by omega)
  rw [marchlandref03_sums.l1, if_neg (by simp), if_neg (by omega), if_pos hi, if_pos hi', if_pos (by simp; omega), hx, e2, Option.bind_some, ew]
theorem sums_l0 (X : List S50) (hl : Short X.length) : ∀ (r pre G : List S50), X = pre ++ r → Str G → G.length ≤ pre.length →
  Ev (fun k => marchlandref03_sums.l0 k (X.map v) (G.map v) (pre.length : Int)) (let T := r.foldl (fun a x => ins x a) G; if good T = true then ((fin T).map v, true) else ([], false)) := by
 unfold Short at hl
 intro r
 induction r with
 | nil =>
  intro pre G e hs hg
  have ll : X.length = pre.length := by rw [e]; simp
  refine Ev.step (f := fun k => marchlandref03_sums.l3 k (G.map v) [] 0) (fun k => ?_) (sums_l3 G (by unfold Short; omega) G [] [] rfl (by simp))
  show marchlandref03_sums.l0 (k + 1) _ _ _ = _
  rw [marchlandref03_sums.l0, if_neg (by simp; omega)]
 | cons x r ih =>
  intro pre G e hs hg
  have ll : X.length = pre.length + (r.length + 1) := by rw [e]; simp
  have lm : (X.map v).length = X.length := by simp
  have h := ih (pre ++ [x]) (ins x G) (by simp [e]) (ins_str hs) (by have := ins_len (x := x) (l := G); simp; omega)
  have ew : wrap64 ((pre.length : Int) + 1) = ((pre ++ [x]).length : Int) := by rw [w64s (by omega)]; simp
  rw [← ew] at h
  refine Ev.step (fun k => ?_) (sums_step (X' := X.map v) (i := (pre.length : Int)) (x := x) (by omega) (by omega) (by rw [e]; exact rd4m _ _ _ rfl) hs (by unfold Short; omega) h)
  show marchlandref03_sums.l0 (k + 1) _ _ _ = _
  rw [marchlandref03_sums.l0, if_pos (by omega)]
theorem sums_ev (X : List S50) (hl : Short X.length) : Ev (fun k => marchlandref03_sums.f k (X.map v)) (if good (tot X) = true then ((fin (tot X)).map v, true) else ([], false)) :=
 sums_l0 X hl X [] [] rfl List.Pairwise.nil (by simp)
end Go.Proofs.Ytgeldmhgbnamcaa.Pure
end
section
namespace Go.Proofs.Ytgeldmhgbnamcaa.P
open Go.RowKit Go.Proofs.YtgeldmhgbnamcaaW.PrintWords Go.Proofs.YtgeldmhgbnamcaaW.PrintLast Go.Proofs.YtgeldmhgbnamcaaW.PrintMore
attribute [local go_sem] max2_int min2_int max_two min_two max_three min_three max_four min_four   -- for this text's walks alone
set_option linter.unusedVariables false
set_option linter.unusedSimpArgs false
theorem eqA50 (d : Nat) (w : World) (x0 y0 : Int) (x1 y1 : Int) (x2 y2 : Int) :
  (Op.equalIn (d + 2) 50 (.agg #[.int .i64 x0, .int .u64 x1, .int .i64 x2]) (.agg #[.int .i64 y0, .int .u64 y1, .int .i64 y2])).run Try.prog w = .ok (x0 == y0 && (x1 == y1 && (x2 == y2))) w := by
 refine eqA_of Try.underlying50 (by kernel_rfl) ?_; (refine eqf_cons (by rfl) (by go_simp; rfl) (by go_simp; rfl) (by go_simp) ?_); (refine eqf_cons (by rfl) (by go_simp; rfl) (by go_simp; rfl) (by go_simp) ?_); (exact eqf_last (by rfl) (by go_simp; rfl) (by go_simp; rfl) (by go_simp))
end Go.Proofs.Ytgeldmhgbnamcaa.P
end
