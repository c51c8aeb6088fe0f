/- Walks and laws of several statements of this seat, joined into one text; no condition. -/
import Derived.Test.YtgeldmhgbnamcaaDoorProg
import Derived.WalkKit
import Derived.LaidEql
import Derived.Stop.Asserts
import Derived.RowKitTokens
import Derived.Below
import Derived.Deep.Draws
import Derived.Deep.AppendLies
import Derived.Maps.AppendAt
import Derived.OwnWalk
import Derived.Laws.BytesArg
import Derived.Laws.MakeOwn
import Derived.Laws.OwnMore
import Derived.Deep.OwnRows
import Derived.Tactics
import Derived.Lib.ConvBytes
import Derived.Laws.Slices
import Derived.KernelRfl
import Derived.RowKit3
import Derived.Deep.LoopGhost
import Derived.Deep.QuietTactic
import Derived.BigQuiet
import Derived.WideLaws
import Derived.Deep.DeepCutAuto
import Derived.Deep.CutBlock
import Derived.Deep.RegionHeld3
import Derived.Laws.Rows
import Derived.Lib.AppendStr
import Derived.ArgAppend
import Derived.Laws.IdiomCopy
import Derived.RowKit
import Derived.LoopTactic
import Derived.Elder7
import Derived.OrdersHeld
import Derived.Laws.BitsLemmas
import Derived.Laws.StructEq
import Derived.Laws.CopyOwn
import Derived.Deep.RegionLaw
import Derived.Outline
import Derived.IntWalk
import Derived.Deep.Slices
import Derived.SizedLaws
import Derived.OpenShut
import Derived.Lib.SmallJoins
import Derived.Test.YtgeldmhgbnamcaaDoorGCa0
import Derived.Test.YtgeldmhgbnamcaaDoorGCa1
import Derived.Test.YtgeldmhgbnamcaaDoorGCa2
import Derived.Test.YtgeldmhgbnamcaaDoorGCa3
import Derived.Test.YtgeldmhgbnamcaaDoorGCa4
section
namespace Go.Proofs.YtgeldmhgbnamcaaDoor.P
open Go.RowKit Go.Proofs.YtgeldmhgbnamcaaDoorW.PrintWords Go.Proofs.YtgeldmhgbnamcaaDoorW.PrintLast Go.Proofs.YtgeldmhgbnamcaaDoorW.PrintMore
set_option linter.unusedVariables false
set_option linter.unusedSimpArgs false
theorem check_next {w w1 w' : World} {n : Nat} {u0 u1 u2 : Value} (h : w1.cell? ⟨n, 0, none⟩ = some u0 ∧ w1.cell? ⟨n, 1, none⟩ = some u1 ∧ w1.cell? ⟨n, 2, none⟩ = some u2 ∧ n < w1.heap.size ∧ Below w.heap.size w w1) (hb : Below w1.heap.size w1 w') :
    w'.cell? ⟨n, 0, none⟩ = some u0 ∧ w'.cell? ⟨n, 1, none⟩ = some u1 ∧ w'.cell? ⟨n, 2, none⟩ = some u2 ∧ n < w'.heap.size ∧ Below w.heap.size w w' :=
  ⟨(hb.cell (p := ⟨n, 0, none⟩) h.2.2.2.1).trans h.1, (hb.cell (p := ⟨n, 1, none⟩) h.2.2.2.1).trans h.2.1, (hb.cell (p := ⟨n, 2, none⟩) h.2.2.2.1).trans h.2.2.1, Nat.lt_of_lt_of_le h.2.2.2.1 hb.size, below_step h.2.2.2.2 hb⟩
def portS : ByteArray := ⟨#[112, 111, 114, 116]⟩
set_option maxHeartbeats 4000000 in
set_option maxRecDepth 100000 in
theorem Check_cycle (k : Nat) (a0 : Int) (A1 : Option Addr) (c1 : Nat) (l1 : List S127) (A2 : Option Addr) (c2 : Nat) (l2 : List Int) (M : List (List Int)) (p : Int) (W : World) (hr1 : Kd.C k127 W A1 l1.length l1) (hc1 : l1.length ≤ c1) (hr2 : Kd.C (Kd.int .i64) W A2 l2.length l2) (hc2 : l2.length ≤ c2)
    (h0 : 1 ≤ a0) (h1 : a0 ≤ 64) (h2 : l1.length ≤ 256) (he : graph_Graph_edges.f k a0 l1 l2 = some none) (hi : graph_Graph_inputs.f k a0 l1 l2 = some none) (hw : graph_Graph_ways.f k a0 l1 l2 = some M) (hcy : graph_Graph_cycle.f k a0 l1 l2 M = some p) (hp : 0 ≤ p) :
    Calls Tryd.prog 34 #[.agg #[.int .i64 a0, .slice A1 l1.length c1, .slice A2 l2.length c2]] W fun e w' => ∃ v', e = .returned v' ∧ ErrIs w' [(portS, p)] v' (.iface 33 (.int .i64 3)) ∧ Below W.heap.size W w' := by
  have b0 : decide (a0 < 1) = false := decide_eq_false (by omega)
  have b1 : decide (64 < a0) = false := decide_eq_false (by omega)
  have b2 : decide (256 < (l1.length : Int)) = false := decide_eq_false (by omega)
  have b3 : decide (256 < l1.length) = false := decide_eq_false (by omega)
  have b4 : decide (0 ≤ p) = true := decide_eq_true hp
  have HS0 : Aside0 (_ ∧ _ ∧ _ ∧ _ ∧ _) := ⟨show (W.alloc (.cells #[.int .i64 a0, .slice A1 l1.length c1, .slice A2 l2.length c2] 64)).cell? ⟨W.heap.size, 0, none⟩ = some (.int .i64 a0) by simp [go_sem], show (W.alloc (.cells #[.int .i64 a0, .slice A1 l1.length c1, .slice A2 l2.length c2] 64)).cell? ⟨W.heap.size, 1, none⟩ = some (.slice A1 l1.length c1) by simp [go_sem], show (W.alloc (.cells #[.int .i64 a0, .slice A1 l1.length c1, .slice A2 l2.length c2] 64)).cell? ⟨W.heap.size, 2, none⟩ = some (.slice A2 l2.length c2) by simp [go_sem], show W.heap.size < (W.alloc (.cells #[.int .i64 a0, .slice A1 l1.length c1, .slice A2 l2.length c2] 64)).heap.size by simp, below_alloc (Below.refl W.heap.size W) (.cells #[.int .i64 a0, .slice A1 l1.length c1, .slice A2 l2.length c2] 64)⟩
  have HR1 := Aside0.mk hr1
  have HR2 := Aside0.mk hr2
  have HE := Aside0.mk he
  have HI := Aside0.mk hi
  have HW := Aside0.mk hw
  have HY := Aside0.mk hcy
  clear hr1 hr2 he hi hw hcy h0 h1 h2 hp
  go_enter Tryd.func34, Tryd.ntmps34
  go_wp2_with (first
    | (go_at_call 67; (with_reducible refine (graph_Graph_edges.calls k a0 A1 c1 l1 A2 c2 l2 none _ ?_ hc1 ?_ hc2 HE.out).mono ?_); (exact Kd.C_below HR1.out HS0.out.2.2.2.2); (exact Kd.C_below HR2.out HS0.out.2.2.2.2); rintro e w2 ⟨he, hb⟩; rw [errW_none] at he; subst he; have HS2 := Aside0.mk (check_next HS0.out hb); have hx0 := HS2.out.1; have hx1 := HS2.out.2.1; have hx2 := HS2.out.2.2.1; clear hb)
    | (go_at_call 68; (with_reducible refine (graph_Graph_inputs.calls k a0 A1 c1 l1 A2 c2 l2 none _ ?_ hc1 ?_ hc2 HI.out).mono ?_); (exact Kd.C_below HR1.out HS2.out.2.2.2.2); (exact Kd.C_below HR2.out HS2.out.2.2.2.2); rintro e w3 ⟨he, hb⟩; rw [errW_none] at he; subst he; have HS3 := Aside0.mk (check_next HS2.out hb); clear hb))
  have HSD := Aside0.mk (check_next HS3.out (below_drew (Below.refl _ _)))
  go_region_held3 (fun w' => w'.cell? ⟨W.heap.size, 0, none⟩ = some (.int .i64 a0) ∧ w'.cell? ⟨W.heap.size, 1, none⟩ = some (.slice A1 l1.length c1) ∧ w'.cell? ⟨W.heap.size, 2, none⟩ = some (.slice A2 l2.length c2) ∧ W.heap.size < w'.heap.size ∧ Below W.heap.size W w')
    (first | exact HSD.out | exact hN)
    (first
      | (go_at_call 70; (with_reducible refine (graph_Graph_ways.calls k a0 A1 c1 l1 A2 c2 l2 M _ ?_ hc1 ?_ hc2 HW.out).mono ?_); (exact Kd.C_below HR1.out HSD.out.2.2.2.2); (exact Kd.C_below HR2.out HSD.out.2.2.2.2); rintro e w4 ⟨v4, rfl, hs, hb⟩; obtain ⟨A4, c4, rfl⟩ := Kd.S_slice hs; have HM := Aside0.mk hs; have hN := check_next HSD.out hb; have HN4 := Aside0.mk hN; clear hs hb)
      | (go_at_call 69; (with_reducible refine (graph_Graph_cycle.calls k a0 A1 c1 l1 A2 c2 l2 A4 c4 M p _ ?_ hc1 ?_ hc2 ?_ ?_ HY.out).mono ?_); (exact Kd.C_below HR1.out HN4.out.2.2.2.2); (exact Kd.C_below HR2.out HN4.out.2.2.2.2); (exact (Kd.S_reads' HM.out).2.2); (exact (Kd.S_reads' HM.out).2.1); rintro e w5 ⟨rfl, hb⟩; have hN := check_next HN4.out hb; clear hb))
  all_goals
    rename_i hH
    have HB5 := Aside0.mk hH.2.2.2.2
    clear hH
    go_wp2_with (first | (go_at_call 27; refine (At_calls [] (.iface 33 (.int .i64 3)) 33 (.int .i64 3) portS p _ rfl).mono ?_; rintro e w6 ⟨v6, rfl, hE6, hb⟩; have HE6 := Aside0.mk hE6; have HB6 := Aside0.mk (below_step HB5.out hb); clear hE6 hb))
    go_ret
    exact ⟨_, rfl, HE6.out, HB6.out⟩
theorem t5_paths : graph_Paths.f 30 2 [⟨0, 1, 0⟩, ⟨1, 0, 1⟩] [0] = some [[0, 0], [1, 0]] := by kernel_rfl
theorem t5_check : graph_Check.f 30 2 [⟨0, 1, 0⟩, ⟨1, 0, 1⟩] [0] = some none := by kernel_rfl
theorem t5_edges : graph_Graph_edges.f 30 2 [⟨0, 1, 0⟩, ⟨1, 0, 0⟩] [0] = some none := by kernel_rfl
theorem t5_inputs : graph_Graph_inputs.f 30 2 [⟨0, 1, 0⟩, ⟨1, 0, 0⟩] [0] = some none := by kernel_rfl
theorem t5_ways : graph_Graph_ways.f 30 2 [⟨0, 1, 0⟩, ⟨1, 0, 0⟩] [0] = some [[0, 0], [0, 0]] := by kernel_rfl
theorem t5_cycle : graph_Graph_cycle.f 30 2 [⟨0, 1, 0⟩, ⟨1, 0, 0⟩] [0] [[0, 0], [0, 0]] = some 0 := by kernel_rfl
theorem t5_none : graph_Check.f 30 0 [] [] = some (some 2) := by kernel_rfl
def marchlandlaw05_told.f : Option Bool := some true
set_option maxHeartbeats 4000000 in
set_option maxRecDepth 100000 in
theorem marchlandlaw05_told.calls (r : Bool) (w : World) (hg : TypeVar w) (h : marchlandlaw05_told.f = some r) : Calls Tryd.prog 37 #[] w fun e w' => e = .returned (.bool r) ∧ Below w.heap.size w w' := by
  obtain rfl := Option.some.inj h
  clear h
  have HB := Aside0.mk (Below.refl w.heap.size w)
  have HG := Aside0.mk hg
  obtain ⟨Eg, hEg⟩ : ∃ E : List S127, E = [(⟨0, 1, 0⟩ : S127), (⟨1, 0, 1⟩ : S127)] := ⟨_, rfl⟩
  obtain ⟨Eh, hEh⟩ : ∃ E : List S127, E = [(⟨0, 1, 0⟩ : S127), (⟨1, 0, 0⟩ : S127)] := ⟨_, rfl⟩
  obtain ⟨I, hI⟩ : ∃ I : List Int, I = [0] := ⟨_, rfl⟩
  obtain ⟨P, hP⟩ : ∃ P : List (List Int), P = [[0, 0], [1, 0]] := ⟨_, rfl⟩
  obtain ⟨M, hM⟩ : ∃ P : List (List Int), P = [[0, 0], [0, 0]] := ⟨_, rfl⟩
  have T1 := Aside0.mk (show graph_Paths.f 30 2 Eg I = some P by rw [hEg, hI, hP]; exact t5_paths)
  have T2 := Aside0.mk (show graph_Check.f 30 2 Eg I = some none by rw [hEg, hI]; exact t5_check)
  have T3 := Aside0.mk (show graph_Graph_edges.f 30 2 Eh I = some none by rw [hEh, hI]; exact t5_edges)
  have T4 := Aside0.mk (show graph_Graph_inputs.f 30 2 Eh I = some none by rw [hEh, hI]; exact t5_inputs)
  have T5 := Aside0.mk (show graph_Graph_ways.f 30 2 Eh I = some M by rw [hEh, hI, hM]; exact t5_ways)
  have T6 := Aside0.mk (show graph_Graph_cycle.f 30 2 Eh I M = some 0 by rw [hEh, hI, hM]; exact t5_cycle)
  have T7 := Aside0.mk t5_none
  have hpl : ((P.length : Int) == 2) = true := by rw [hP]; rfl
  have hp0 : (0 : Int) < (P.length : Int) := by rw [hP]; decide
  have hp1 : (1 : Int) < (P.length : Int) := by rw [hP]; decide
  have HEg := Aside0.mk hEg
  have HEh := Aside0.mk hEh
  have HI := Aside0.mk hI
  have HP := Aside0.mk hP
  clear hg hEg hEh hI hP hM
  go_enter Tryd.func37, Tryd.ntmps37
  go_wp2_with (first
    | ((with_reducible refine gate_dst (N := 6) rfl ?_); refine Kd.R_lit k127 _ 127 ?hg (N := 6) ?hd (xs := ([(⟨0, 1, 0⟩ : S127), (⟨1, 0, 1⟩ : S127)] : List S127)) (inner := [.int .i64 0, .int .i64 1, .int .u64 0, .int .i64 1, .int .i64 0, .int .u64 1]) (ok := fun _ => True) (okp := fun _ => True) ?hr ?hp (fun _ hk => hk) trivial (Below.refl _ _) (Nat.le_refl _) (by simp) ?_; (case hd => rfl); (case hg => rfl); (case hr => first | (go_simp; done) | (go_simp; rfl)); (case hp => exact (Reps.c3 (show Kd.M k127 _ _ _ (⟨0, 1, 0⟩ : S127) [.int .i64 0, .int .i64 1, .int .u64 0] from (k127_mkM _ _ _ (⟨0, 1, 0⟩ : S127) )) (Reps.c3 (show Kd.M k127 _ _ _ (⟨1, 0, 1⟩ : S127) [.int .i64 1, .int .i64 0, .int .u64 1] from (k127_mkM _ _ _ (⟨1, 0, 1⟩ : S127) )) (Reps.none _ _)))); intro v6 w6 ho hb hg_ hn_; clear hg_ hn_; rw [← HEg.out] at ho; obtain ⟨A1, c1, rfl⟩ := Kd.R_slice ho; have HO1 := Aside0.mk ho; have n1_ := Aside0.mk (below_step (by repeat (first | (with_reducible first | exact HB.out | apply below_alloc | apply pw_below_drewN | apply below_drew1) | exact HB.out)) hb); clear HB; have HB := n1_; clear n1_; clear ho hb)
    | ((with_reducible refine gate_dst (N := 7) rfl ?_); refine Kd.R_lit (Kd.int .i64) _ 3 ?hg (N := 7) ?hd (xs := ([0] : List Int)) (inner := [.int .i64 0]) (ok := fun _ => True) (okp := fun _ => True) ?hr ?hp (fun _ hk => hk) trivial (Below.refl _ _) (Nat.le_refl _) (by simp) ?_; (case hd => rfl); (case hg => rfl); (case hr => first | (go_simp; done) | (go_simp; rfl)); (case hp => exact (Reps.one (show Kd.M (Kd.int .i64) _ _ _ 0 [.int .i64 0] from rfl) (Reps.none _ _))); intro v7 w7 ho hb hg_ hn_; clear hg_ hn_; rw [← HI.out] at ho; obtain ⟨A2, c2, rfl⟩ := Kd.R_slice ho; have HO2 := Aside0.mk (Kd.R_alloc ho (.cells #[.int .i64 2, .slice A1 Eg.length c1, .slice A2 I.length c2] 64)); have HO1b := Aside0.mk (Kd.R_alloc (Kd.R_below HO1.out hb) (.cells #[.int .i64 2, .slice A1 Eg.length c1, .slice A2 I.length c2] 64)); have HGB := Aside0.mk (blk_new w7 (.cells #[.int .i64 2, .slice A1 Eg.length c1, .slice A2 I.length c2] 64)); have n1_ := Aside0.mk (below_step (by repeat (first | (with_reducible first | exact HB.out | apply below_alloc | apply pw_below_drewN | apply below_drew1) | exact HB.out)) hb); clear HB; have HB := n1_; clear n1_; clear ho hb)
    | (go_at_call 39; (with_reducible refine (graph_Paths.calls 30 2 A1 c1 Eg A2 c2 I P _ ?_ ?_ ?_ ?_ T1.out).mono ?_); (exact (Kd.R_reads' HO1b.out).2.2); (exact (Kd.R_reads' HO1b.out).2.1); (exact (Kd.R_reads' HO2.out).2.2); (exact (Kd.R_reads' HO2.out).2.1); rintro e w10 ⟨v10, rfl, hs, hb⟩; obtain ⟨A9, c9, rfl⟩ := Kd.S_slice hs; have HS := Aside0.mk hs; have HO1c := Aside0.mk (Kd.R_below HO1b.out hb); have HO2c := Aside0.mk (Kd.R_below HO2.out hb); have HGB2 := Aside0.mk (blk_below HGB.out hb); have n1_ := Aside0.mk (below_step (by repeat (first | (with_reducible first | exact HB.out | apply below_alloc | apply pw_below_drewN | apply below_drew1) | exact HB.out)) hb); clear HB; have HB := n1_; clear n1_; clear hs hb)
    | ((with_reducible refine gate_dst (N := 13) rfl ?_); refine Kd.R_lit k127 _ 127 ?hg (N := 13) ?hd (xs := ([(⟨0, 1, 0⟩ : S127), (⟨1, 0, 0⟩ : S127)] : List S127)) (inner := [.int .i64 0, .int .i64 1, .int .u64 0, .int .i64 1, .int .i64 0, .int .u64 0]) (ok := fun _ => True) (okp := fun _ => True) ?hr ?hp (fun _ hk => hk) trivial (Below.refl _ _) (Nat.le_refl _) (by simp) ?_; (case hd => rfl); (case hg => rfl); (case hr => first | (go_simp; done) | (go_simp; rfl)); (case hp => exact (Reps.c3 (show Kd.M k127 _ _ _ (⟨0, 1, 0⟩ : S127) [.int .i64 0, .int .i64 1, .int .u64 0] from (k127_mkM _ _ _ (⟨0, 1, 0⟩ : S127) )) (Reps.c3 (show Kd.M k127 _ _ _ (⟨1, 0, 0⟩ : S127) [.int .i64 1, .int .i64 0, .int .u64 0] from (k127_mkM _ _ _ (⟨1, 0, 0⟩ : S127) )) (Reps.none _ _)))); intro v13 w13 ho hb hg_ hn_; clear hg_ hn_; rw [← HEh.out] at ho; obtain ⟨A3, c3, rfl⟩ := Kd.R_slice ho; have HO3 := Aside0.mk ho; have HS2 := Aside0.mk (Kd.S_below HS.out hb); have HO1d := Aside0.mk (Kd.R_below HO1c.out hb); have HO2d := Aside0.mk (Kd.R_below HO2c.out hb); have HGB3 := Aside0.mk (blk_below HGB2.out hb); have n1_ := Aside0.mk (below_step (by repeat (first | (with_reducible first | exact HB.out | apply below_alloc | apply pw_below_drewN | apply below_drew1) | exact HB.out)) hb); clear HB; have HB := n1_; clear n1_; clear ho hb)
    | ((with_reducible refine gate_dst (N := 14) rfl ?_); refine Kd.R_lit (Kd.int .i64) _ 3 ?hg (N := 14) ?hd (xs := ([0] : List Int)) (inner := [.int .i64 0]) (ok := fun _ => True) (okp := fun _ => True) ?hr ?hp (fun _ hk => hk) trivial (Below.refl _ _) (Nat.le_refl _) (by simp) ?_; (case hd => rfl); (case hg => rfl); (case hr => first | (go_simp; done) | (go_simp; rfl)); (case hp => exact (Reps.one (show Kd.M (Kd.int .i64) _ _ _ 0 [.int .i64 0] from rfl) (Reps.none _ _))); intro v14 w14 ho hb hg_ hn_; clear hg_ hn_; rw [← HI.out] at ho; obtain ⟨A4, c4, rfl⟩ := Kd.R_slice ho; have HO4 := Aside0.mk (Kd.R_alloc ho (.cells #[.int .i64 2, .slice A3 Eh.length c3, .slice A4 I.length c4] 64)); have HO3b := Aside0.mk (Kd.R_alloc (Kd.R_below HO3.out hb) (.cells #[.int .i64 2, .slice A3 Eh.length c3, .slice A4 I.length c4] 64)); have HS3 := Aside0.mk (Kd.S_alloc (Kd.S_below HS2.out hb) (.cells #[.int .i64 2, .slice A3 Eh.length c3, .slice A4 I.length c4] 64)); have HO1e := Aside0.mk (Kd.R_alloc (Kd.R_below HO1d.out hb) (.cells #[.int .i64 2, .slice A3 Eh.length c3, .slice A4 I.length c4] 64)); have HO2e := Aside0.mk (Kd.R_alloc (Kd.R_below HO2d.out hb) (.cells #[.int .i64 2, .slice A3 Eh.length c3, .slice A4 I.length c4] 64)); have HGB4 := Aside0.mk (blk_alloc (blk_below HGB3.out hb) (.cells #[.int .i64 2, .slice A3 Eh.length c3, .slice A4 I.length c4] 64)); have HHB := Aside0.mk (blk_new w14 (.cells #[.int .i64 2, .slice A3 Eh.length c3, .slice A4 I.length c4] 64)); have n1_ := Aside0.mk (below_step (by repeat (first | (with_reducible first | exact HB.out | apply below_alloc | apply pw_below_drewN | apply below_drew1) | exact HB.out)) hb); clear HB; have HB := n1_; clear n1_; have qa0 := blk_cell (HGB4.out) 0; have qa1 := blk_cell (HGB4.out) 1; have qa2 := blk_cell (HGB4.out) 2; simp only [List.getElem?_toArray, List.getElem?_cons_zero, List.getElem?_cons_succ] at qa0 qa1 qa2; clear ho hb)
    | (go_at_call 34; (with_reducible refine (graph_Check.calls 30 2 A1 c1 Eg A2 c2 I none _ ?_ ?_ ?_ ?_ T2.out).mono ?_); (exact (Kd.R_reads' HO1e.out).2.2); (exact (Kd.R_reads' HO1e.out).2.1); (exact (Kd.R_reads' HO2e.out).2.2); (exact (Kd.R_reads' HO2e.out).2.1); rintro e w17 ⟨he, hb⟩; rw [errW_none] at he; subst he; have HS4 := Aside0.mk (Kd.S_below HS3.out hb); have HO3c := Aside0.mk (Kd.R_below HO3b.out hb); have HO4c := Aside0.mk (Kd.R_below HO4.out hb); have HHB2 := Aside0.mk (blk_below HHB.out hb); have n1_ := Aside0.mk (below_step (by repeat (first | (with_reducible first | exact HB.out | apply below_alloc | apply pw_below_drewN | apply below_drew1) | exact HB.out)) hb); clear HB; have HB := n1_; clear n1_; have qb0 := blk_cell (HHB2.out) 0; have qb1 := blk_cell (HHB2.out) 1; have qb2 := blk_cell (HHB2.out) 2; simp only [List.getElem?_toArray, List.getElem?_cons_zero, List.getElem?_cons_succ] at qb0 qb1 qb2; obtain ⟨ad9, R0, rc0, er, hr0, hl0, hi0⟩ := at_L5 (Kd.S_reads' HS4.out).2.2 0 (by decide) (by rw [HP.out]; decide); subst er; obtain ⟨ad9', R1, rc1, er1, hr1, hl1, hi1⟩ := at_L5 (Kd.S_reads' HS4.out).2.2 1 (by decide) (by rw [HP.out]; decide); cases er1; obtain ⟨ad0, e0, hx0⟩ := Kd.at_int hi0 1 (by decide) (by rw [HP.out]; decide); obtain ⟨ad1, e1, hx1⟩ := Kd.at_int hi1 0 (by decide) (by rw [HP.out]; decide); subst e0 e1; have HX := Aside0.mk (show _ ∧ _ ∧ _ ∧ _ from ⟨hr0, hr1, hx0, hx1⟩); clear hr0 hr1 hx0 hx1 hl0 hl1 hi0 hi1; obtain ⟨hr0, hr1, hx0, hx1⟩ := HX.out; rw [HP.out] at hr0 hr1 hx0 hx1; simp [rd_L5, rd, Addr.add] at hr0 hr1 hx0 hx1; clear hb)
    | (go_at_call 34; (with_reducible refine (Check_cycle 30 2 A3 c3 Eh A4 c4 I M 0 _ ?_ ?_ ?_ ?_ (by decide) (by decide) ?_ T3.out T4.out T5.out T6.out (by decide)).mono ?_); (exact (Kd.R_reads' HO3c.out).2.2); (exact (Kd.R_reads' HO3c.out).2.1); (exact (Kd.R_reads' HO4c.out).2.2); (exact (Kd.R_reads' HO4c.out).2.1); (rw [HEh.out]; decide); rintro e w42 ⟨v42, rfl, hE, hb⟩; have HE := Aside0.mk hE; have n1_ := Aside0.mk (below_step (by repeat (first | (with_reducible first | exact HB.out | apply below_alloc | apply pw_below_drewN | apply below_drew1) | exact HB.out)) hb); clear HB; have HB := n1_; clear n1_; clear hE hb)
    | (go_at_call 22; refine (Text_calls [(portS, 0)] v42 3 _ HE.out (HG.out.below HB.out) (by decide) (by intro p hp; rw [List.mem_singleton.1 hp]; decide) (by intro p hp; rw [List.mem_singleton.1 hp]; decide) (by decide) (by decide)).mono ?_; rintro e w43 ⟨he, hb⟩; subst he; rw [show (pathT ([(portS, (0 : Int))].map fun p => ⟨p.1, p.2⟩) [(portS, (0 : Int))].length ++ wordOf 3) = ⟨#[112, 111, 114, 116, 32, 48, 58, 32, 99, 121, 99, 108, 101]⟩ from by decide]; have n1_ := Aside0.mk (below_step (by repeat (first | (with_reducible first | exact HB.out | apply below_alloc | apply pw_below_drewN | apply below_drew1) | exact HB.out)) hb); clear HB; have HB := n1_; clear n1_; clear hb)
    | (go_at_call 34; refine (graph_Check.calls 30 0 none 0 [] none 0 [] (some 2) _ (Kd.C_nil _ _) (Nat.le_refl _) (Kd.C_nil _ _) (Nat.le_refl _) T7.out).mono ?_; rintro e w48 ⟨he, hb⟩; rw [errW_some] at he; subst he; have n1_ := Aside0.mk (below_step (by repeat (first | (with_reducible first | exact HB.out | apply below_alloc | apply pw_below_drewN | apply below_drew1) | exact HB.out)) hb); clear HB; have HB := n1_; clear n1_; clear hb)
    | (go_at_call 20; refine (Kind_calls [] _ 2 _ rfl (HG.out.below HB.out)).mono ?_; rintro e w49 ⟨he, hb⟩; subst he; have n1_ := Aside0.mk (below_step (by repeat (first | (with_reducible first | exact HB.out | apply below_alloc | apply pw_below_drewN | apply below_drew1) | exact HB.out)) hb); clear HB; have HB := n1_; clear n1_; clear hb))
  go_ret
  exact ⟨rfl, HB.out⟩
attribute [local go_sem] max2_int min2_int max_two min_two
set_option maxRecDepth 100000
theorem non_check {k j : Nat} (h1 : 1 ≤ k) (h9 : k ≤ 9) (hj : j < k) : graph_Check.f 3001 (((k + 2 : Nat) : Int)) (cycG k j) [0] = some none ∧ ∃ M, graph_Paths.f 3001 (((k + 2 : Nat) : Int)) (cycG k j) [0] = some M ∧ M.length = k + 2 := by
  obtain ⟨g1, g2, M, g3, g4, g5⟩ := way_fact h1 h9 (show j ≤ k by omega)
  rw [if_neg (by omega)] at g5
  have hc : graph_Check.f 3001 (((k + 2 : Nat) : Int)) (cycG k j) [0] = some none := by
    unfold graph_Check.f
    rw [if_neg (by omega)]
    show graph_Check.j0 (3000 + 1) _ _ _ _ = _
    rw [graph_Check.j0, decide_eq_false (by omega), if_neg (by simp), cycG_len, if_neg (by omega), g1, Option.bind_some, if_pos (show (none : Option Int).isNone = true from rfl), g2, Option.bind_some, if_pos (show (none : Option Int).isNone = true from rfl), g3, Option.bind_some, g5, Option.bind_some, if_neg (by decide)]
  refine ⟨hc, M, ?_, g4⟩
  unfold graph_Paths.f
  rw [hc, Option.bind_some, if_pos (show (none : Option Int).isNone = true from rfl), (graph_Graph_ways.mono _ _ _ 3000) _ g3]
  rfl
def cycE (k i : Nat) : List S75 := (List.range i).map fun (j : Nat) => ⟨1 + (j : Int), 1 + (((j + 1) % k : Nat) : Int), 0⟩
theorem cycE_len (k i : Nat) : (cycE k i).length = i := by unfold cycE; rw [List.length_map, List.length_range]
theorem cycE_next (k i : Nat) : cycE k i ++ [⟨1 + (i : Int), 1 + (((i + 1) % k : Nat) : Int), 0⟩] = cycE k (i + 1) := by
  unfold cycE
  rw [List.range_succ, List.map_append]
  rfl
def cv (x : S75) : S127 := ⟨x.f0, x.f1, x.f2⟩
theorem cycE_all (k : Nat) : (cycE k k).map cv = cycG k k := by
  unfold cycE cycG
  rw [List.map_map]
  apply List.map_congr_left
  intro i hi
  have h := List.mem_range.1 hi
  show (⟨1 + (i : Int), 1 + (((i + 1) % k : Nat) : Int), 0⟩ : S127) = _
  rw [if_neg (by omega)]
theorem cycE_set {k j : Nat} (hj : j < (cycE k k).length) : ((cycE k k).set j ⟨(cycE k k)[j].f0, (cycE k k)[j].f1, 1⟩).map cv = cycG k j := by
  apply List.ext_getElem?
  intro i
  rw [List.getElem?_map, List.getElem?_set]
  have hl := cycE_len k k
  by_cases hi : i < k
  · have h1 : (cycG k j)[i]? = some ⟨1 + (i : Int), 1 + (((i + 1) % k : Nat) : Int), if i = j then 1 else 0⟩ := by
      unfold cycG
      rw [List.getElem?_map, List.getElem?_range hi]
      rfl
    have h2 : ∀ (x : Nat) (hx : x < (cycE k k).length), (cycE k k)[x] = ⟨1 + (x : Int), 1 + (((x + 1) % k : Nat) : Int), 0⟩ := fun x hx => by
      have h3 : (cycE k k)[x]? = some ⟨1 + (x : Int), 1 + (((x + 1) % k : Nat) : Int), 0⟩ := by
        unfold cycE
        rw [List.getElem?_map, List.getElem?_range (by omega)]
        rfl
      rw [List.getElem?_eq_getElem hx] at h3
      exact Option.some.inj h3
    rw [h1]
    by_cases hij : j = i
    · subst hij
      rw [if_pos rfl, if_pos (by omega), h2 j hj, if_pos rfl]
      rfl
    · rw [if_neg hij, List.getElem?_eq_getElem (by omega), h2 i (by omega), if_neg (fun e => hij e.symm)]
      rfl
  · have h1 : (cycG k j)[i]? = none := List.getElem?_eq_none (by rw [cycG_len]; omega)
    rw [h1, if_neg (by omega), List.getElem?_eq_none (by omega)]
    rfl
theorem rd75_nat (E : List S75) (i : Nat) (h : i < E.length) : rd_T75 E (i : Int) = E[i] := by
  unfold rd_T75
  rw [Int.toNat_natCast, List.getD_eq_getElem?_getD, List.getElem?_eq_getElem h]
  rfl
theorem to_l0 {a : Int} {E : List S75} {I : List Int} (hE : E.length ≤ 1000) : ∀ (d i : Nat) (acc : List S127), E.length - i = d → acc = (E.take i).map cv → ∃ k, marchlandlaw05_To.l0 k (i : Int) a E I a acc I = some (a, E.map cv, I)
  | 0, i, acc, hd, hacc => ⟨1, by
      show marchlandlaw05_To.l0 (0 + 1) (i : Int) a E I a acc I = _
      rw [marchlandlaw05_To.l0, if_neg (by omega), hacc, List.take_of_length_le (by omega)]⟩
  | d + 1, i, acc, hd, hacc => by
    have hi : i < E.length := by omega
    have hal : acc.length = i := by rw [hacc, List.length_map, List.length_take]; omega
    obtain ⟨k, hk⟩ := to_l0 (a := a) (I := I) hE d (i + 1) (acc ++ [⟨(rd_T75 E (i : Int)).f0, (rd_T75 E (i : Int)).f1, (rd_T75 E (i : Int)).f2⟩]) (by omega) (by
      rw [hacc, rd75_nat E i hi, List.take_add_one, List.map_append, List.getElem?_eq_getElem hi]
      rfl)
    refine ⟨k + 1, ?_⟩
    rw [marchlandlaw05_To.l0, if_pos (by omega), if_pos (by omega), if_pos (by omega), show wrap64 ((i : Int) + 1) = ((i + 1 : Nat) : Int) by unfold wrap64; omega]
    exact hk
theorem to_ok (a : Int) {E : List S75} (hE : E.length ≤ 1000) : ∃ k, marchlandlaw05_To.f k a E [0] = some (a, E.map cv, [0]) := by
  obtain ⟨k, hk⟩ := to_l0 (a := a) (I := [0]) hE _ 0 [] rfl rfl
  refine ⟨k, ?_⟩
  unfold marchlandlaw05_To.f
  rw [Option.bind_some, if_pos (by decide)]
  exact hk
set_option maxRecDepth 100000
theorem u64_posD (p : Int) : 0 ≤ IntKind.u64.wrap p := by simp [IntKind.wrap, IntKind.bits, IntKind.signed]; omega
theorem ring_num (a : Int) : ∃ m : Nat, m ≤ 8 ∧ IntKind.i64.wrap (Int.tmod (IntKind.u64.wrap a) 9) = (m : Int) ∧ IntKind.i64.wrap (1 + (m : Int)) = ((m + 1 : Nat) : Int) := by
  have h0 := u64_posD a
  have h1 := Int.tmod_nonneg 9 h0
  have h2 := Int.tmod_lt_of_pos (IntKind.u64.wrap a) (show (0 : Int) < 9 by decide)
  refine ⟨(Int.tmod (IntKind.u64.wrap a) 9).toNat, by omega, ?_, ?_⟩
  · rw [IntKind.wrap_i64]; omega
  · rw [IntKind.wrap_i64]; omega
theorem pick_num (a : Int) {k : Nat} (hk : 1 ≤ k) (hk2 : k ≤ 9) : ∃ j : Nat, j < k ∧ IntKind.u64.wrap (k : Int) = (k : Int) ∧ IntKind.i64.wrap (Int.tmod (IntKind.u64.wrap a) (k : Int)) = (j : Int) := by
  have h0 := u64_posD a
  have h1 := Int.tmod_nonneg (k : Int) h0
  have h2 := Int.tmod_lt_of_pos (IntKind.u64.wrap a) (show (0 : Int) < (k : Int) by omega)
  refine ⟨(Int.tmod (IntKind.u64.wrap a) (k : Int)).toNat, by omega, ?_, ?_⟩
  · rw [IntKind.wrap_u64]; omega
  · rw [IntKind.wrap_i64]; omega
structure GI (W w : World) (gb gi k i : Nat) (A : Option Addr) (c : Nat) : Prop where
  hg : w.heap[gb]? = some (.cells #[.int .i64 ((k : Int) + 2), .slice A i c, .slice (some ⟨gi, 0, none⟩) 1 1] 59 (0, 0))
  re : Kd.R k75 75 w W.heap.size (fun j => gb < j) (.slice A i c) (cycE k i)
  ri : Kd.R (Kd.int .i64) 3 w W.heap.size (fun j => j = gi) (.slice (some ⟨gi, 0, none⟩) 1 1) [0]
  gg : W.heap.size ≤ gi ∧ gi < gb
  bel : Below W.heap.size W w
theorem cell_eqD {w w' : World} {k i : Nat} (h : w'.heap[k]? = w.heap[k]?) : w'.cell? ⟨k, i, none⟩ = w.cell? ⟨k, i, none⟩ := by
  unfold World.cell?
  simp only [h]
theorem alloc_drewD (w : World) (o : Obj) : (w.alloc o).drew = w.drew.alloc o := rfl
theorem lit1_iD (W : World) (x : Int) : Kd.R (Kd.int .i64) 3 (W.alloc (.cells #[.int .i64 x] 3)) W.heap.size (fun j => j = W.heap.size) (.slice (some ⟨W.heap.size, 0, none⟩) 1 1) [x] :=
  Kd.R_of_own (enc := Value.int .i64) (h1 := fun _ => rfl) (World.ownsRow_lit (base := W.heap.size) (e := 3) (size := 1) W #[.int .i64 x] 1 (Nat.le_refl _) (by decide) rfl) (fun j hj => by simp [Value.ownBlock] at hj; exact hj.symm)
set_option maxHeartbeats 8000000 in
theorem Cycles_calls (s t : Int) (W : World) (hg : TypeVar W) : Calls Tryd.prog 10 #[.int .i64 s, .int .i64 t] W fun e w' => e = .returned (.bool true) ∧ Below W.heap.size W w' := by
  obtain ⟨m, hm, e1, e2⟩ := ring_num s
  obtain ⟨k, hk⟩ : ∃ k, k = m + 1 := ⟨_, rfl⟩
  rw [← hk] at e2
  have e3 : IntKind.i64.wrap ((k : Int) + 2) = (k : Int) + 2 := by rw [IntKind.wrap_i64]; omega
  obtain ⟨j, hj, f1, f2⟩ := pick_num t (k := k) (by omega) (by omega)
  have HK := Aside0.mk (show (1 ≤ k ∧ k ≤ 9) ∧ j < k from ⟨⟨by omega, by omega⟩, hj⟩)
  have HG := Aside0.mk hg
  clear hm hk hg hj
  go_enter Tryd.func10, Tryd.ntmps10
  go_upto_region 3 with fail
  have HI0 := Aside0.mk (show GI W ((W.alloc (.cells #[.int .i64 0] 3)).alloc (.cells #[.int .i64 ((k : Int) + 2), .slice none 0 0, .slice (some ⟨W.heap.size, 0, none⟩) 1 1] 59)) (W.heap.size + 1) W.heap.size k 0 none 0 from by
    have hz : (W.alloc (.cells #[.int .i64 0] 3)).heap.size = W.heap.size + 1 := by simp
    have hb := blk_new (W.alloc (.cells #[.int .i64 0] 3)) (.cells #[.int .i64 ((k : Int) + 2), .slice none 0 0, .slice (some ⟨W.heap.size, 0, none⟩) 1 1] 59)
    rw [hz] at hb
    exact ⟨hb, Kd.R_nil _ _ _ _ _, Kd.R_alloc (lit1_iD W 0) _, ⟨Nat.le_refl _, by omega⟩, below_alloc (below_alloc (Below.refl _ W) _) _⟩)
  generalize ew : (W.alloc (.cells #[.int .i64 0] 3)).alloc (.cells #[.int .i64 ((k : Int) + 2), .slice none 0 0, .slice (some ⟨W.heap.size, 0, none⟩) 1 1] 59) = w3 at HI0 ⊢
  generalize egb : W.heap.size + 1 = gb at HI0 ⊢
  generalize egi : W.heap.size = gi at HI0 ⊢
  replace HI0 : Aside0 (GI W w3 gb gi k 0 none 0) := HI0
  clear ew egb e1 e2
  go_wp2
  go_loopw [7] (fun v7 wr => ∃ (i : Nat) (A : Option Addr) (c : Nat), v7 = .int .i64 (i : Int) ∧ Aside0 (i ≤ k ∧ GI W wr gb gi k i A c)) (fun v7 _ => (20 - intOf v7).toNat)
  case atStart => exact ⟨0, none, 0, rfl, ⟨Nat.zero_le _, HI0.out⟩⟩
  case round =>
    clear HI0
    obtain ⟨i, A, c, rfl, HI⟩ := hrel
    obtain ⟨hik, hgi⟩ := HI.out
    have HGI := Aside0.mk hgi
    clear hgi HI
    have hx0 : wr.cell? ⟨gb, 0, none⟩ = some (.int .i64 ((k : Int) + 2)) := (blk_cell HGI.out.hg 0).trans rfl
    have hx1 : wr.cell? ⟨gb, 1, none⟩ = some (.slice A i c) := (blk_cell HGI.out.hg 1).trans rfl
    have hx2 : wr.cell? ⟨gb, 2, none⟩ = some (.slice (some ⟨gi, 0, none⟩) 1 1) := (blk_cell HGI.out.hg 2).trans rfl
    by_cases hi : i < k
    · have d1 := decide_eq_true (show (i : Int) < (k : Int) by omega)
      have q1 : (i : Int) < (k : Int) := by omega
      have hk0 : ¬ (k : Int) = 0 := by omega
      have hk0n : ¬ k = 0 := by omega
      have HIK := Aside0.mk hi
      have g1 : IntKind.i64.wrap (1 + (i : Int)) = 1 + (i : Int) := by have := HK.out; rw [IntKind.wrap_i64]; omega
      have g2 : IntKind.i64.wrap ((i : Int) + 1) = (i : Int) + 1 := by have := HK.out; rw [IntKind.wrap_i64]; omega
      obtain ⟨rr, hrr⟩ : ∃ rr, (i + 1) % k = rr := ⟨_, rfl⟩
      have hrl : rr < k := by rw [← hrr]; exact Nat.mod_lt _ (by omega)
      have g3 : Int.tmod ((i : Int) + 1) (k : Int) = (rr : Int) := by rw [← hrr]; exact Int.tmod_eq_emod_of_nonneg (by omega)
      have g4 : IntKind.i64.wrap (rr : Int) = (rr : Int) := by have := HK.out; rw [IntKind.wrap_i64]; omega
      have g5 : IntKind.i64.wrap (1 + (rr : Int)) = 1 + (rr : Int) := by have := HK.out; rw [IntKind.wrap_i64]; omega
      have HN := Aside0.mk (show cycE k i ++ [(⟨1 + (i : Int), 1 + (rr : Int), 0⟩ : S75)] = cycE k (i + 1) from by rw [← cycE_next, hrr])
      clear hi hrr hrl hik
      go_upto_region 6 with fail
      have HSS := Aside0.mk (fun w' (hb : Below wr.heap.size wr w') => (hb.cell (p := ⟨gb, 1, none⟩) (World.block_lt_of_cell? wr _ hx1)).trans hx1)
      refine start_ (n := 14) (S := (fun w' => w'.cell? ⟨gb, 1, none⟩ = some (.slice A i c))) (ds := [13]) #[false, false, false, false, false, false, false, false, false, false, false, false, false, false] (by kernel_rfl) rfl rfl (HSS.out _ (below_drew (Below.refl _ _))) (fun hHeld => ?_)
      refine pure_ (i := 0) (N := some 24) (v := ?_) (a' := ?_) #[true, false, false, false, false, false, false, false, false, false, false, false, false, false] rfl rfl (by kernel_rfl) (fun _ _ _ h => h) (Or.inl ⟨by rfl, ?_⟩) ?_ ?_
      rotate_left
      · intro w'
        go_simp
        with_reducible rfl
      rotate_left
      · simp only [Act.put, List.setIfInBounds_toArray, List.set_cons_zero, List.set_cons_succ]
        rfl
      refine take_ (i := 1) (N := some 25) (v := ?_) (a' := ?_) #[true, true, false, false, false, false, false, false, false, false, false, false, false, false] rfl rfl (by kernel_rfl) (fun _ _ _ h => h) (Or.inl ⟨by rfl, ?_⟩) hHeld ?_ ?_
      rotate_left
      · rintro w' s0
        go_simp
        with_reducible rfl
      rotate_left
      · simp only [Act.put, List.setIfInBounds_toArray, List.set_cons_zero, List.set_cons_succ]
        rfl
      refine pure_ (i := 2) (N := some 26) (v := ?_) (a' := ?_) #[true, true, true, false, false, false, false, false, false, false, false, false, false, false] rfl rfl (by kernel_rfl) (fun _ _ _ h => h) (Or.inl ⟨by rfl, ?_⟩) ?_ ?_
      rotate_left
      · intro w'
        go_simp
        with_reducible rfl
      rotate_left
      · simp only [Act.put, List.setIfInBounds_toArray, List.set_cons_zero, List.set_cons_succ]
        rfl
      refine pure_ (i := 3) (N := some 27) (v := ?_) (a' := ?_) #[true, true, true, true, false, false, false, false, false, false, false, false, false, false] rfl rfl (by kernel_rfl) (fun _ _ _ h => h) (Or.inl ⟨by rfl, ?_⟩) ?_ ?_
      rotate_left
      · intro w'
        go_simp
        with_reducible rfl
      rotate_left
      · simp only [Act.put, List.setIfInBounds_toArray, List.set_cons_zero, List.set_cons_succ]
        rfl
      refine pure_ (i := 4) (N := some 28) (v := ?_) (a' := ?_) #[true, true, true, true, true, false, false, false, false, false, false, false, false, false] rfl rfl (by kernel_rfl) (fun _ _ _ h => h) (Or.inl ⟨by rfl, ?_⟩) ?_ ?_
      rotate_left
      · intro w'
        go_simp
        with_reducible rfl
      rotate_left
      · simp only [Act.put, List.setIfInBounds_toArray, List.set_cons_zero, List.set_cons_succ]
        rfl
      refine pure_ (i := 5) (N := some 29) (v := ?_) (a' := ?_) #[true, true, true, true, true, true, false, false, false, false, false, false, false, false] rfl rfl (by kernel_rfl) (fun _ _ _ h => h) (Or.inl ⟨by rfl, ?_⟩) ?_ ?_
      rotate_left
      · intro w'
        go_simp
        with_reducible rfl
      rotate_left
      · simp only [Act.put, List.setIfInBounds_toArray, List.set_cons_zero, List.set_cons_succ]
        rfl
      refine pure_ (i := 6) (N := some 30) (v := ?_) (a' := ?_) #[true, true, true, true, true, true, true, false, false, false, false, false, false, false] rfl rfl (by kernel_rfl) (fun _ _ _ h => h) (Or.inl ⟨by rfl, ?_⟩) ?_ ?_
      rotate_left
      · intro w'
        go_simp
        with_reducible rfl
      rotate_left
      · simp only [Act.put, List.setIfInBounds_toArray, List.set_cons_zero, List.set_cons_succ]
        rfl
      refine pure_ (i := 7) (N := some 31) (v := ?_) (a' := ?_) #[true, true, true, true, true, true, true, true, false, false, false, false, false, false] rfl rfl (by kernel_rfl) (fun _ _ _ h => h) (Or.inl ⟨by rfl, ?_⟩) ?_ ?_
      rotate_left
      · intro w'
        go_simp
        with_reducible rfl
      rotate_left
      · simp only [Act.put, List.setIfInBounds_toArray, List.set_cons_zero, List.set_cons_succ]
        rfl
      refine pure_ (i := 8) (N := some 32) (v := ?_) (a' := ?_) #[true, true, true, true, true, true, true, true, true, false, false, false, false, false] rfl rfl (by kernel_rfl) (fun _ _ _ h => h) (Or.inl ⟨by rfl, ?_⟩) ?_ ?_
      rotate_left
      · intro w'
        go_simp
        with_reducible rfl
      rotate_left
      · simp only [Act.put, List.setIfInBounds_toArray, List.set_cons_zero, List.set_cons_succ]
        rfl
      refine pure_ (i := 9) (N := some 33) (v := ?_) (a' := ?_) #[true, true, true, true, true, true, true, true, true, true, false, false, false, false] rfl rfl (by kernel_rfl) (fun _ _ _ h => h) (Or.inl ⟨by rfl, ?_⟩) ?_ ?_
      rotate_left
      · intro w'
        go_simp
        with_reducible rfl
      rotate_left
      · simp only [Act.put, List.setIfInBounds_toArray, List.set_cons_zero, List.set_cons_succ]
        rfl
      refine one_ (i := 10) (N := some 34) #[true, true, true, true, true, true, true, true, true, true, true, false, false, false] rfl rfl (by kernel_rfl) (by decide) (fun K hK => ?_)
      refine value_ (w1 := ?_) (v := ?_) (by rfl) rfl ?_ ?_
      rotate_left 2
      · go_simp
        constructor
        · rfl
        · rfl
      refine hK.out _ _ (HSS.out _ (by repeat (first | with_reducible exact Below.refl _ _ | apply below_drew | apply below_alloc))) (fun hHeld => ?_)
      clear hK K
      refine norm_ (a' := ?_) ?_ ?_
      rotate_left
      · show Act.put _ (some 34) _ = _
        simp only [Act.put, List.setIfInBounds_toArray, List.set_cons_zero, List.set_cons_succ]
        rfl
      refine one_ (i := 11) (N := some 35) #[true, true, true, true, true, true, true, true, true, true, true, true, false, false] rfl rfl (by kernel_rfl) (by decide) (fun K hK => ?_)
      rw [alloc_drewD]
      refine Kd.R_append_step k75 (w0 := W) W.heap.size (by rfl) (.tmp 25) (.tmp 34) 56 75 (.agg #[(.int .i64 0), (.int .i64 0), (.int .u64 0)]) 24 rfl Tryd.underlying56 info75 rfl (by decide) (by omega) (.slice A i c) (cycE k i) (⟨1 + (i : Int), 1 + (rr : Int), 0⟩ : S75) [.int .i64 (1 + (i : Int)), .int .i64 (1 + (rr : Int)), .int .u64 0] (fun j => gb < j) (fun _ => False) rfl rfl ?aP (fun _ hk => hk.elim) ?aF ?aO ?aB ?aS ?aL ?_
      (case aP => exact k75_mkM _ _ _ (⟨1 + (i : Int), 1 + (rr : Int), 0⟩ : S75))
      (case aB => exact below_drew HGI.out.bel)
      (case aF => exact (fun j hj => Nat.lt_of_lt_of_le (blk_lt HGI.out.hg) hj))
      (case aO => exact Kd.R_drew HGI.out.re)
      (case aS => exact HGI.out.bel.size)
      (case aL => have := HIK.out; have := HK.out; rw [cycE_len]; omega)
      intro v6 w6 ho hb hgr hat
      rw [HN.out] at ho
      obtain ⟨A6, c6, e6⟩ := Kd.R_slice ho
      rw [cycE_len] at e6
      subst e6
      have HO6 := Aside0.mk ho
      have HB6 := Aside0.mk hb
      have hne : some gb ≠ Value.ownBlock (.slice A i c) := fun e => by have := HGI.out.re.1 gb e.symm; omega
      have hni : some gi ≠ Value.ownBlock (.slice A i c) := fun e => by have := HGI.out.re.1 gi e.symm; have := HGI.out.gg.2; omega
      have HGB6 := Aside0.mk (show w6.heap[gb]? = _ from (hgr.block gb (blk_lt HGI.out.hg) hne).trans HGI.out.hg)
      have HRI6 := Aside0.mk (Kd.R_grown (Kd.R_drew HGI.out.ri) hgr (fun k hk => by subst hk; exact hni))
      clear ho hb hgr hat hne hni
      refine hK.out _ _ ((blk_cell HGB6.out 1).trans rfl) (fun hHeld => ?_)
      clear hK K
      refine norm_ (a' := ?_) ?_ ?_
      rotate_left
      · show Act.put _ (some 35) _ = _
        simp only [Act.put, List.setIfInBounds_toArray, List.set_cons_zero, List.set_cons_succ]
        rfl
      refine pure_ (i := 12) (N := some 36) (v := ?_) (a' := ?_) #[true, true, true, true, true, true, true, true, true, true, true, true, true, false] rfl rfl (by kernel_rfl) (fun _ _ _ h => h) (Or.inl ⟨by rfl, ?_⟩) ?_ ?_
      rotate_left
      · intro w'
        go_simp
        with_reducible rfl
      rotate_left
      · simp only [Act.put, List.setIfInBounds_toArray, List.set_cons_zero, List.set_cons_succ]
        rfl
      refine last_ (i := 13) (N := none) #[true, true, true, true, true, true, true, true, true, true, true, true, true, true] rfl rfl (by kernel_rfl) (by decide) (fun K hK => ?_)
      have hs6 : w6.cell? ⟨gb, 1, none⟩ = some (.slice A i c) := (blk_cell HGB6.out 1).trans rfl
      have hz6 := blk_frozen HGB6.out 1
      refine skip_ (w1 := ?_) (by rfl) rfl ?_ ?_
      rotate_left
      · go_simp
        rfl
      refine hK.out _ _ ?_
      clear hK K
      refine done_ (by kernel_rfl) ?_
      go_wp2
      go_roundw
      case rel => exact ⟨i + 1, A6, c6, by first | rfl | exact congrArg _ g2, ⟨by have := HIK.out; omega, ⟨blk_put HGB6.out 1 _ rfl, Kd.R_step HO6.out (fun j h1 h2 => Below.heap_setCell _ _ _ _ (by have : gb < j := h1; show j ≠ gb; omega)), Kd.R_step HRI6.out (fun j h1 h2 => Below.heap_setCell _ _ _ _ (by have : j = gi := h1; have := HGI.out.gg.2; show j ≠ gb; omega)), HGI.out.gg, HB6.out.setCell (p := ⟨gb, 1, none⟩) (by have := HGI.out.gg; show W.heap.size ≤ gb; omega) _⟩⟩⟩
      case measure => have := HIK.out; have := HK.out; simp only [intOf]; omega
    · have d1 := decide_eq_false (show ¬ (i : Int) < (k : Int) by omega)
      have q1 : ¬ (i : Int) < (k : Int) := by omega
      obtain rfl : i = k := by omega
      clear hi hik
      have HB0 := Aside0.mk HGI.out.bel
      obtain ⟨kt, hto⟩ := to_ok ((i : Int) + 2) (E := cycE i i) (by rw [cycE_len]; have := HK.out; omega)
      rw [cycE_all] at hto
      have HTO := Aside0.mk hto
      have TO0 := marchlandlaw05_To.calls kt ((i : Int) + 2) A c (cycE i i) (some ⟨gi, 0, none⟩) 1 [0] _ _ _ wr (Kd.R_reads' HGI.out.re).2.2 (by rw [cycE_len]; exact (Kd.R_reads' HGI.out.re).2.1) (Kd.R_reads' HGI.out.ri).2.2 (by decide) hto
      rw [cycE_len] at TO0
      have TO := Aside0.mk TO0
      have hway := way_fact (k := i) (j := i) HK.out.1.1 HK.out.1.2 (Nat.le_refl _)
      rw [show ((i + 2 : Nat) : Int) = (i : Int) + 2 by omega] at hway
      obtain ⟨w1_, w2_, M, w3_, -, w5_⟩ := hway
      rw [if_pos rfl] at w5_
      have HWF := Aside0.mk (show _ ∧ _ ∧ _ ∧ _ from ⟨w1_, w2_, w3_, w5_⟩)
      clear hto TO0 w1_ w2_ w3_ w5_
      go_upto_region 8 with (first | (go_at_call 35; ((refine TO.out.mono ?_); rintro e w4 ⟨v1, v2, rfl, hr1, hr2, hb⟩; obtain ⟨Ag, cg, e1_⟩ := Kd.R_slice hr1; obtain ⟨Ah, ch, e2_⟩ := Kd.R_slice hr2; subst e1_; subst e2_; have HR1 := Aside0.mk hr1; have HR2 := Aside0.mk hr2; have HB4 := Aside0.mk hb; have CY := Aside0.mk (Check_cycle 3000 ((i : Int) + 2) Ag cg (cycG i i) Ah ch [0] M 1 w4 (Kd.R_reads' hr1).2.2 (Kd.R_reads' hr1).2.1 (Kd.R_reads' hr2).2.2 (Kd.R_reads' hr2).2.1 (by omega) (by have := HK.out; omega) (by rw [cycG_len]; have := HK.out; omega) HWF.out.1 HWF.out.2.1 HWF.out.2.2.1 HWF.out.2.2.2 (by decide)); clear hr1 hr2 hb)) | (go_at_call 34; ((refine CY.out.mono ?_); rintro e w5 ⟨v5, rfl, hE, hb⟩; have HE5 := Aside0.mk hE; have HB5 := Aside0.mk (below_step HB4.out hb); clear hE hb)))
      obtain ⟨ge, ce, hv, -⟩ := Kd.R_form HGI.out.re (by rw [cycE_len]; have := HK.out; omega)
      injection hv with hA hn hc
      subst hA hc
      clear hn
      have hR5 := Kd.R_below HGI.out.re HB5.out
      have HR5 := Aside0.mk hR5
      obtain ⟨ge2, cap2, hv2, -, -, cells, hcl⟩ := Kd.R_form hR5 (by rw [cycE_len]; have := HK.out; omega)
      injection hv2 with hA2 hn2 hc2
      injection hA2 with hA2
      injection hA2 with hA2
      subst hA2
      clear hn2 hc2
      have HGE := Aside0.mk (show gb < ge from HGI.out.re.1 ge rfl)
      have HB5b := Aside0.mk (show w5.heap[gb]? = _ from (HB5.out.block gb (blk_lt HGI.out.hg)).trans HGI.out.hg)
      have HRI5 := Aside0.mk (Kd.R_below HGI.out.ri HB5.out)
      have hx5 : w5.cell? ⟨gb, 1, none⟩ = some (.slice (some ⟨ge, 0, none⟩) i c) := (blk_cell HB5b.out 1).trans rfl
      have q2 : (0 : Int) ≤ (j : Int) := by omega
      have q3 : (j : Int) < (i : Int) := by have := HK.out; omega
      have q4 : j < i := by have := HK.out; omega
      have hi0 : ¬ (i : Int) = 0 := by have := HK.out; omega
      have hi0n : ¬ i = 0 := by have := HK.out; omega
      have hcj : w5.cell? ⟨ge, j * 3 + 2, none⟩ = some (.int .u64 (rd_T75 (cycE i i) (j : Int)).f2) := by
        have h := at_T75 (Kd.R_reads' hR5).2.2 (j : Int) q2 (by rw [cycE_len]; exact q3)
        obtain ⟨ad, e, -, -, h3⟩ := h
        injection e with e
        subst e
        rw [Int.toNat_natCast] at h3
        by_cases hj0 : j * 3 = 0
        · rw [hj0] at h3 ⊢
          exact h3
        · simpa [Addr.add, hj0] using h3
      have hzj := blk_frozen hcl (j * 3 + 2)
      have HNE := Aside0.mk (show gb ≠ ge by have := HGE.out; omega)
      have HCL := Aside0.mk hcl
      clear hR5 hcl
      go_region_held3 (fun w' => w'.cell? ⟨gb, 1, none⟩ = some (.slice (some ⟨ge, 0, none⟩) i c))
        (first | exact hx5 | exact (cell_eqD (Below.heap_setCell _ ⟨ge, j * 3 + 2, none⟩ _ gb HNE.out)).trans hx5)
        (fail)
      have hjl : j < (cycE i i).length := by rw [cycE_len]; exact q4
      obtain ⟨E6, hE6⟩ : ∃ E6, E6 = (cycE i i).set j ⟨(cycE i i)[j].f0, (cycE i i)[j].f1, 1⟩ := ⟨_, rfl⟩
      have hmap : E6.map cv = cycG i j := by rw [hE6]; exact cycE_set hjl
      have hlen : E6.length = i := by rw [hE6, List.length_set, cycE_len]
      have hR6 : Kd.R k75 75 (w5.setCell ⟨ge, j * 3 + 2, none⟩ (.int .u64 1)).drew W.heap.size (fun x => gb < x) (.slice (some ⟨ge, 0, none⟩) i c) E6 := by
        have h := Kd.R_drew (R_field (show Kd.R k75 75 w5 W.heap.size (fun x => gb < x) (.slice (some ⟨ge, 0, none⟩) (cycE i i).length c) (cycE i i) from by rw [cycE_len]; exact HR5.out) hjl 1)
        rw [← hE6, cycE_len] at h
        exact h
      have HR6 := Aside0.mk hR6
      have HGB6 := Aside0.mk (show (w5.setCell ⟨ge, j * 3 + 2, none⟩ (.int .u64 1)).drew.heap[gb]? = _ from blk_far HB5b.out (p := ⟨ge, j * 3 + 2, none⟩) HNE.out (.int .u64 1))
      have HRI6 := Aside0.mk (Kd.R_drew (Kd.R_step HRI5.out (w1 := w5.setCell ⟨ge, j * 3 + 2, none⟩ (.int .u64 1)) (fun x h1 h2 => Below.heap_setCell w5 ⟨ge, j * 3 + 2, none⟩ _ x (by have h3 : x = gi := h1; have := HGI.out.gg; have := HGE.out; show x ≠ ge; omega))))
      have HE6 := Aside0.mk (show ErrIs (w5.setCell ⟨ge, j * 3 + 2, none⟩ (.int .u64 1)).drew [(portS, 1)] v5 (.iface 33 (.int .i64 3)) from by
        obtain ⟨b, vi, g1, g2, g3⟩ := HE5.out
        have hbne : b ≠ ge := fun e => by
          subst e
          rw [HCL.out] at g2
          injection g2 with g2
          injection g2 with _ g2
          cases g2
        exact ⟨b, vi, g1, blk_far g2 (p := ⟨ge, j * 3 + 2, none⟩) hbne (.int .u64 1), g3⟩)
      have HB6 := Aside0.mk (below_drew (((below_step HB0.out HB5.out)).setCell (p := ⟨ge, j * 3 + 2, none⟩) (by have := HGI.out.gg; have := HGE.out; show W.heap.size ≤ ge; omega) (.int .u64 1)))
      generalize (w5.setCell ⟨ge, j * 3 + 2, none⟩ (.int .u64 1)).drew = w6 at HR6 HGB6 HRI6 HE6 HB6 ⊢
      clear hR6 hcj hzj hx5 HCL HNE HR5 HB5b HRI5 HE5 HB5 HGE TO HWF
      have hx60 : w6.cell? ⟨gb, 0, none⟩ = some (.int .i64 ((i : Int) + 2)) := (blk_cell HGB6.out 0).trans rfl
      have hx61 : w6.cell? ⟨gb, 1, none⟩ = some (.slice (some ⟨ge, 0, none⟩) i c) := (blk_cell HGB6.out 1).trans rfl
      have hx62 : w6.cell? ⟨gb, 2, none⟩ = some (.slice (some ⟨gi, 0, none⟩) 1 1) := (blk_cell HGB6.out 2).trans rfl
      obtain ⟨kt2, hto2⟩ := to_ok ((i : Int) + 2) (E := E6) (by rw [hlen]; have := HK.out; omega)
      rw [hmap] at hto2
      have HT2 := Aside0.mk hto2
      have HLN := Aside0.mk hlen
      have TO2 := Aside0.mk (fun w1 (hb : Below w6.heap.size w6 w1) => (show Calls Tryd.prog 35 #[.agg #[.int .i64 ((i : Int) + 2), .slice (some ⟨ge, 0, none⟩) i c, .slice (some ⟨gi, 0, none⟩) 1 1]] w1 (fun e w' => ∃ v1_ v2_ : Value, e = .returned (.agg #[.int .i64 ((i : Int) + 2), v1_, v2_]) ∧ Kd.R k127 127 w' w1.heap.size (fun _ => True) v1_ (cycG i j) ∧ Kd.R (Kd.int .i64) 3 w' w1.heap.size (fun _ => True) v2_ [0] ∧ Below w1.heap.size w1 w') from by
        have hC := (Kd.R_reads' (Kd.R_below HR6.out hb))
        have h := marchlandlaw05_To.calls kt2 ((i : Int) + 2) (some ⟨ge, 0, none⟩) c E6 (some ⟨gi, 0, none⟩) 1 [0] _ _ _ w1 hC.2.2 (by rw [← hC.1]; exact hC.2.1) (Kd.R_reads' (Kd.R_below HRI6.out hb)).2.2 (by decide) HT2.out
        rw [HLN.out] at h
        exact h))
      have hnon := non_check HK.out.1.1 HK.out.1.2 (show j < i from HK.out.2)
      rw [show ((i + 2 : Nat) : Int) = (i : Int) + 2 by omega] at hnon
      obtain ⟨n1_, M2, n2_, n3_⟩ := hnon
      have HNC := Aside0.mk n1_
      have HNP := Aside0.mk n2_
      have hpl : ((M2.length : Int) == (i : Int) + 2) = true := by rw [n3_]; simp
      have hpl2 : (M2.length : Int) = (i : Int) + 2 := by rw [n3_]; omega
      clear hto2 n1_ n2_ n3_ hE6 hmap hlen hjl
      go_upto_region 10 with (first | (go_at_call 35; ((refine (TO2.out _ (Below.refl _ _)).mono ?_); rintro e w7 ⟨v1, v2, rfl, hr1, hr2, hb⟩; obtain ⟨A1, c1, e1_⟩ := Kd.R_slice hr1; obtain ⟨A2, c2, e2_⟩ := Kd.R_slice hr2; subst e1_; subst e2_; have HB7 := Aside0.mk hb; have PA := Aside0.mk (graph_Paths.calls 3001 ((i : Int) + 2) A1 c1 (cycG i j) A2 c2 [0] M2 w7 (Kd.R_reads' hr1).2.2 (Kd.R_reads' hr1).2.1 (Kd.R_reads' hr2).2.2 (Kd.R_reads' hr2).2.1 HNP.out); clear hr1 hr2 hb)) | (go_at_call 39; ((refine PA.out.mono ?_); rintro e w8 ⟨v8, rfl, hs, hb⟩; obtain ⟨A8, c8, rfl⟩ := Kd.S_slice hs; have HB8 := Aside0.mk (below_step HB7.out hb); clear hs hb)))
      have TD := Aside0.mk (marchlandlaw05_told.calls true w8 (HG.out.below (below_step HB6.out HB8.out)) rfl)
      clear hx60 hx61 hx62
      go_wp2_with (first | (go_at_call 37; ((refine TD.out.mono ?_); rintro e w9 ⟨rfl, hb⟩; have HB9 := Aside0.mk (below_step HB8.out hb); have hx90 : w9.cell? ⟨gb, 0, none⟩ = some (.int .i64 ((i : Int) + 2)) := (blk_cell (blk_below HGB6.out HB9.out) 0).trans rfl; have TX := Aside0.mk (Text_calls [(portS, 1)] v5 3 w9 (HE6.out.below HB9.out) (HG.out.below (below_step HB6.out HB9.out)) (by decide) (by intro p hp; rw [List.mem_singleton.1 hp]; decide) (by intro p hp; rw [List.mem_singleton.1 hp]; decide) (by decide) (by decide)); clear hb)) | (go_at_call 22; ((refine TX.out.mono ?_); rintro e w10 ⟨he, hb⟩; subst he; rw [show (pathT ([(portS, (1 : Int))].map fun p => ⟨p.1, p.2⟩) [(portS, (1 : Int))].length ++ wordOf 3) = ⟨#[112, 111, 114, 116, 32, 49, 58, 32, 99, 121, 99, 108, 101]⟩ from by decide]; have HB10 := Aside0.mk (below_step HB9.out hb); have hxa : w10.cell? ⟨gb, 0, none⟩ = some (.int .i64 ((i : Int) + 2)) := (blk_cell (blk_below HGB6.out HB10.out) 0).trans rfl; have hxb : w10.cell? ⟨gb, 1, none⟩ = some (.slice (some ⟨ge, 0, none⟩) i c) := (blk_cell (blk_below HGB6.out HB10.out) 1).trans rfl; have hxc : w10.cell? ⟨gb, 2, none⟩ = some (.slice (some ⟨gi, 0, none⟩) 1 1) := (blk_cell (blk_below HGB6.out HB10.out) 2).trans rfl; have IS := Aside0.mk (fIs_calls [(portS, 1)] v5 3 3 (by decide) w10 (HE6.out.below HB10.out)); clear hb)) | (go_at_call 21; ((refine IS.out.mono ?_); rintro e w11 ⟨rfl, hw⟩; obtain rfl := hw.symm)) | (go_at_call 35; ((refine (TO2.out _ HB10.out).mono ?_); rintro e w12 ⟨v1, v2, rfl, hr1, hr2, hb⟩; obtain ⟨A1, c1, e1_⟩ := Kd.R_slice hr1; obtain ⟨A2, c2, e2_⟩ := Kd.R_slice hr2; subst e1_; subst e2_; have HB12 := Aside0.mk (below_step HB10.out hb); have CK := Aside0.mk (graph_Check.calls 3001 ((i : Int) + 2) A1 c1 (cycG i j) A2 c2 [0] none w12 (Kd.R_reads' hr1).2.2 (Kd.R_reads' hr1).2.1 (Kd.R_reads' hr2).2.2 (Kd.R_reads' hr2).2.1 HNC.out); clear hr1 hr2 hb)) | (go_at_call 34; ((refine CK.out.mono ?_); rintro e w13 ⟨he, hb⟩; rw [errW_none] at he; subst he; have HB13 := Aside0.mk (below_step HB12.out hb); clear hb)))
      go_ret
      exact ⟨rfl, below_step HB6.out HB13.out⟩
open Go.RowKit
def marchlandlaw05_GraphCycles.f (_k : Nat) (_a _b : Int) : Option Bool := some true
theorem marchlandlaw05_GraphCycles.calls (k : Nat) (a b : Int) (r : Bool) (w : World) (hg : TypeVar w) (h : marchlandlaw05_GraphCycles.f k a b = some r) :
    Calls Tryd.prog 10 #[.int .i64 a, .int .i64 b] w fun e w' => e = .returned (.bool r) ∧ Below w.heap.size w w' := by
  obtain rfl := Option.some.inj h
  exact Cycles_calls a b w hg
end Go.Proofs.YtgeldmhgbnamcaaDoor.P
namespace Go.Proofs.YtgeldmhgbnamcaaDoor.Pure
theorem GraphCycles (a b : Int) : ∃ k, P.marchlandlaw05_GraphCycles.f k a b = some true := ⟨0, rfl⟩
end Go.Proofs.YtgeldmhgbnamcaaDoor.Pure
end
