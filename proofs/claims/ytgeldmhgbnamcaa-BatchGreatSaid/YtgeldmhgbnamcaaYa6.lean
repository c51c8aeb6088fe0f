/- Walks and laws of several statements of this seat, joined into one text; no condition. -/
import Derived.Test.YtgeldmhgbnamcaaProg
import Derived.Below
import Derived.Deep.Draws
import Derived.Deep.AppendLies
import Derived.Maps.AppendAt
import Derived.OwnWalk
import Derived.Laws.BytesArg
import Derived.Laws.MakeOwn
import Derived.Laws.OwnMore
import Derived.Deep.OwnRows
import Derived.Tactics
import Derived.Lib.ConvBytes
import Derived.Laws.Slices
import Derived.WalkKit
import Derived.KernelRfl
import Derived.RowKit3
import Derived.Deep.LoopGhost
import Derived.Deep.QuietTactic
import Derived.BigQuiet
import Derived.WideLaws
import Derived.Deep.DeepCutAuto
import Derived.Deep.CutBlock
import Derived.Deep.RegionHeld3
import Derived.Laws.Rows
import Derived.Lib.AppendStr
import Derived.ArgAppend
import Derived.Laws.IdiomCopy
import Derived.OrdersHeld
import Derived.Laws.BitsLemmas
import Derived.RowKit
import Derived.Laws.StructEq
import Derived.Lib.BufferMore
import Derived.Test.YtgeldmhgbnamcaaYa0
import Derived.Test.YtgeldmhgbnamcaaYa1
import Derived.Test.YtgeldmhgbnamcaaYa2
import Derived.Test.YtgeldmhgbnamcaaYa5
section
-- Printed by the session's own turn of the print (wip/tools/print2.sh): some callees are proved by hand.
namespace Go.Proofs.Ytgeldmhgbnamcaa.P
open Go.RowKit Go.Proofs.YtgeldmhgbnamcaaW.PrintWords Go.Proofs.YtgeldmhgbnamcaaW.PrintLast Go.Proofs.YtgeldmhgbnamcaaW.PrintMore
attribute [local go_sem] max2_int min2_int max_two min_two max_three min_three max_four min_four   -- for this text's walks alone
set_option linter.unusedVariables false
set_option linter.unusedSimpArgs false
/-! ### marchlandlaw03_told: function 17 -/
def marchlandlaw03_told.f (k : Nat)  : Option (Bool) := (batch_Pack.f k (([(⟨1, 5, 2⟩ : S50), (⟨0, 7, 1⟩ : S50), (⟨1, 5, (-2)⟩ : S50)] : List (S50)))).bind fun bt235 => ((batch_Pack.f k (([(⟨64, 0, 0⟩ : S50)] : List (S50)))).bind fun bt242 => (if bt235.2 = 0 then (if (bt235.1.length : Int) = 1 then (if 0 < (bt235.1.length : Int) then (if ((rd_T50 bt235.1 0).f1) = 7 then (if bt242.2 = 2 then ((batch_Of.f k bt235.1 0 7).bind fun t247 => (if t247 = 1 then ((batch_Right.f k bt235.1).bind fun t248 => (some t248)) else (some false))) else (some false)) else (some false)) else (none)) else (some false)) else (some false)))
theorem marchlandlaw03_told.mono : ∀ k, LeO (marchlandlaw03_told.f k ) (marchlandlaw03_told.f (k + 1) ) := by
 intro  k
 unfold marchlandlaw03_told.f
 repeat' first
   | (with_reducible exact batch_Of.mono _ _ _ _)
   | (with_reducible exact batch_Pack.mono _ _)
   | (with_reducible exact batch_Right.mono _ _)
   | (with_reducible exact LeO.refl _)
   | (with_reducible exact LeO.none _)
   | (with_reducible refine LeO.ite ?_ ?_)
   | (with_reducible refine LeO.bind ?_ (fun _ => ?_))
   | exact batch_Of.mono _ _ _ _
   | exact batch_Pack.mono _ _
   | exact batch_Right.mono _ _
   | exact LeO.none _
   | refine LeO.ite ?_ ?_
   | refine LeO.bind ?_ (fun _ => ?_)
set_option maxHeartbeats 8000000 in
set_option maxRecDepth 100000 in
theorem marchlandlaw03_told.calls (k : Nat)  (r : Bool) (w : World) (h : marchlandlaw03_told.f k  = some r) :
  Calls Try.prog 17 #[] w fun e w' => e = .returned (.bool r) ∧ Below w.heap.size w w' := by
 have hu50 := Try.underlying50
 have HB := Aside0.mk (Below.refl w.heap.size w)
 have H : ((batch_Pack.f k (([(⟨1, 5, 2⟩ : S50), (⟨0, 7, 1⟩ : S50), (⟨1, 5, (-2)⟩ : S50)] : List (S50)))).bind fun bt235 => ((batch_Pack.f k (([(⟨64, 0, 0⟩ : S50)] : List (S50)))).bind fun bt242 => (if bt235.2 = 0 then (if (bt235.1.length : Int) = 1 then (if 0 < (bt235.1.length : Int) then (if ((rd_T50 bt235.1 0).f1) = 7 then (if bt242.2 = 2 then ((batch_Of.f k bt235.1 0 7).bind fun t247 => (if t247 = 1 then ((batch_Right.f k bt235.1).bind fun t248 => (some t248)) else (some false))) else (some false)) else (some false)) else (none)) else (some false)) else (some false)))) = some r := h
 clear h
 obtain ⟨y232, hy232⟩ : ∃ y_ : List (S50), y_ = (([(⟨1, 5, 2⟩ : S50), (⟨0, 7, 1⟩ : S50), (⟨1, 5, (-2)⟩ : S50)] : List (S50))) := ⟨_, rfl⟩
 replace H : ((batch_Pack.f k y232).bind fun bt235 => ((batch_Pack.f k (([(⟨64, 0, 0⟩ : S50)] : List (S50)))).bind fun bt242 => (if bt235.2 = 0 then (if (bt235.1.length : Int) = 1 then (if 0 < (bt235.1.length : Int) then (if ((rd_T50 bt235.1 0).f1) = 7 then (if bt242.2 = 2 then ((batch_Of.f k bt235.1 0 7).bind fun t247 => (if t247 = 1 then ((batch_Right.f k bt235.1).bind fun t248 => (some t248)) else (some false))) else (some false)) else (some false)) else (none)) else (some false)) else (some false)))) = some r := by first | (rw [hy232]; with_reducible exact H) | (have H2_ := (Option.bind_some _ _).symm.trans H; rw [hy232]; with_reducible exact H2_) | (have H2_ := (Option.bind_some _ _).symm.trans H; with_reducible exact H2_) | with_reducible exact H | (rw [hy232]; exact H) | exact H
 have Ny232 := Aside0.mk hy232
 clear hy232
 replace H := Option.bind_eq_some_iff.mp H
 obtain ⟨⟨t235, t236⟩, A10, H⟩ := H
 replace H : ((batch_Pack.f k (([(⟨64, 0, 0⟩ : S50)] : List (S50)))).bind fun bt242 => (if t236 = 0 then (if (t235.length : Int) = 1 then (if 0 < (t235.length : Int) then (if ((rd_T50 t235 0).f1) = 7 then (if bt242.2 = 2 then ((batch_Of.f k t235 0 7).bind fun t247 => (if t247 = 1 then ((batch_Right.f k t235).bind fun t248 => (some t248)) else (some false))) else (some false)) else (some false)) else (none)) else (some false)) else (some false))) = some r := H
 have A1 := Aside0.mk A10
 clear A10
 obtain ⟨y239, hy239⟩ : ∃ y_ : List (S50), y_ = (([(⟨64, 0, 0⟩ : S50)] : List (S50))) := ⟨_, rfl⟩
 replace H : ((batch_Pack.f k y239).bind fun bt242 => (if t236 = 0 then (if (t235.length : Int) = 1 then (if 0 < (t235.length : Int) then (if ((rd_T50 t235 0).f1) = 7 then (if bt242.2 = 2 then ((batch_Of.f k t235 0 7).bind fun t247 => (if t247 = 1 then ((batch_Right.f k t235).bind fun t248 => (some t248)) else (some false))) else (some false)) else (some false)) else (none)) else (some false)) else (some false))) = some r := by first | (rw [hy239]; with_reducible exact H) | (have H2_ := (Option.bind_some _ _).symm.trans H; rw [hy239]; with_reducible exact H2_) | (have H2_ := (Option.bind_some _ _).symm.trans H; with_reducible exact H2_) | with_reducible exact H | (rw [hy239]; exact H) | exact H
 have Ny239 := Aside0.mk hy239
 clear hy239
 replace H := Option.bind_eq_some_iff.mp H
 obtain ⟨⟨t242, t243⟩, A20, H⟩ := H
 replace H : (if t236 = 0 then (if (t235.length : Int) = 1 then (if 0 < (t235.length : Int) then (if ((rd_T50 t235 0).f1) = 7 then (if t243 = 2 then ((batch_Of.f k t235 0 7).bind fun t247 => (if t247 = 1 then ((batch_Right.f k t235).bind fun t248 => (some t248)) else (some false))) else (some false)) else (some false)) else (none)) else (some false)) else (some false)) = some r := H
 have A2 := Aside0.mk A20
 clear A20
 by_cases c3 : t236 = 0
 ·rw [if_pos c3] at H
  have c3b0 : (t236 == 0) = true := beq_iff_eq.mpr c3
  have c3b1 : (t236 != 0) = false := bne_eq_false_iff_eq.mpr c3
  clear c3
  by_cases c4 : (t235.length : Int) = 1
  ·rw [if_pos c4] at H
   have c4b0 : ((t235.length : Int) == 1) = true := beq_iff_eq.mpr c4
   have c4b1 : ((t235.length : Int) != 1) = false := bne_eq_false_iff_eq.mpr c4
   clear c4
   by_cases c5 : 0 < (t235.length : Int)
   ·rw [if_pos c5] at H
    have c5b0 : decide (0 < (t235.length : Int)) = true := decide_eq_true c5
    have c5b1 : decide (0 < t235.length) = true := decide_eq_true (by omega)
    clear c5
    by_cases c6 : ((rd_T50 t235 0).f1) = 7
    ·rw [if_pos c6] at H
     have c6b0 : (((rd_T50 t235 0).f1) == 7) = true := beq_iff_eq.mpr c6
     have c6b1 : (((rd_T50 t235 0).f1) != 7) = false := bne_eq_false_iff_eq.mpr c6
     clear c6
     by_cases c7 : t243 = 2
     ·rw [if_pos c7] at H
      have c7b0 : (t243 == 2) = true := beq_iff_eq.mpr c7
      have c7b1 : (t243 != 2) = false := bne_eq_false_iff_eq.mpr c7
      clear c7
      replace H := Option.bind_eq_some_iff.mp H
      obtain ⟨t247, A80, H⟩ := H
      replace H : (if t247 = 1 then ((batch_Right.f k t235).bind fun t248 => (some t248)) else (some false)) = some r := H
      have A8 := Aside0.mk A80
      clear A80
      by_cases c9 : t247 = 1
      ·rw [if_pos c9] at H
       have c9b0 : (t247 == 1) = true := beq_iff_eq.mpr c9
       have c9b1 : (t247 != 1) = false := bne_eq_false_iff_eq.mpr c9
       clear c9
       replace H := Option.bind_eq_some_iff.mp H
       obtain ⟨t248, A100, H⟩ := H
       replace H : (some t248) = some r := H
       have A10 := Aside0.mk A100
       clear A100
       obtain rfl := Option.some.inj H
       go_enter Try.func17, Try.ntmps17
       go_wp2_with (first | ((with_reducible refine gate_dst (N := 9) rfl ?_); (try (refine gate_guard (by rfl) ?_; dsimp only)); refine Kd.R_lit k50 _ 50 ?hg (N := 9) ?hd (xs := ([(⟨1, 5, 2⟩ : S50), (⟨0, 7, 1⟩ : S50), (⟨1, 5, (-2)⟩ : S50)] : List (S50))) (inner := [.int .i64 1, .int .u64 5, .int .i64 2, .int .i64 0, .int .u64 7, .int .i64 1, .int .i64 1, .int .u64 5, .int .i64 (-2)]) (ok := fun _ => True) (okp := fun _ => True) ?hr ?hp (fun _ hk => hk) trivial (Below.refl _ _) (Nat.le_refl _) (by simp) ?_; (case hd => rfl); (case hg => rfl); (case hr => first | (go_simp; done) | (go_simp; rfl)); (case hp => exact (Reps.c3 (show Kd.M k50 _ _ _ (⟨1, 5, 2⟩ : S50) [.int .i64 1, .int .u64 5, .int .i64 2] from (k50_mkM _ _ _ (⟨1, 5, 2⟩ : S50) )) (Reps.c3 (show Kd.M k50 _ _ _ (⟨0, 7, 1⟩ : S50) [.int .i64 0, .int .u64 7, .int .i64 1] from (k50_mkM _ _ _ (⟨0, 7, 1⟩ : S50) )) (Reps.c3 (show Kd.M k50 _ _ _ (⟨1, 5, (-2)⟩ : S50) [.int .i64 1, .int .u64 5, .int .i64 (-2)] from (k50_mkM _ _ _ (⟨1, 5, (-2)⟩ : S50) )) (Reps.none _ _))))); intro v233 w11 ho12 hb hg_ hnew_; clear hg_ hnew_; (first | rw [← Ny232.out] at ho12 | (simp only [Int.reduceToNat] at ho12; rw [← Ny232.out] at ho12)); have n0_ := Aside0.mk (Kd.R_lower ho12 (below_size (bn HB))); have HO234 := n0_; replace HB := bb HB hb; clear n0_; clear hb ho12; obtain ⟨Ao13, co13, eo13⟩ := Kd.R_slice HO234.out; subst eo13) | ((with_reducible refine gate_callee (f := 15) rfl ?_); refine gl (some 10) Try.func15 #[.slice Ao13 y232.length co13] ?_; (with_reducible refine (batch_Pack.calls k _ _ y232 t235 t236 _ ?side1 ?side2 A1.out).mono ?_); (case side1 => exact rc HO234); (case side2 => exact rs HO234); rintro e w14 ⟨v237, rfl, ho0, hb⟩; refine ⟨_, rfl, ?_⟩; have n1_ := Aside0.mk (Kd.R_lower (Kd.R_new' ho0 (Kd.R_lt (rn HO234))) (below_size (bn HB))); replace HO234 := rl HO234 (Kd.R_base ho0) hb; have HO238 := n1_; replace HB := bb HB hb; clear n1_; (try clear hb); (try clear ho0)) | ((with_reducible refine gate_dst (N := 15) rfl ?_); (try (refine gate_guard (by rfl) ?_; dsimp only)); refine Kd.R_lit k50 _ 50 ?hg (N := 15) ?hd (xs := ([(⟨64, 0, 0⟩ : S50)] : List (S50))) (inner := [.int .i64 64, .int .u64 0, .int .i64 0]) (ok := fun _ => True) (okp := fun _ => True) ?hr ?hp (fun _ hk => hk) trivial (Below.refl _ _) (Nat.le_refl _) (by simp) ?_; (case hd => rfl); (case hg => rfl); (case hr => first | (go_simp; done) | (go_simp; rfl)); (case hp => exact (Reps.c3 (show Kd.M k50 _ _ _ (⟨64, 0, 0⟩ : S50) [.int .i64 64, .int .u64 0, .int .i64 0] from (k50_mkM _ _ _ (⟨64, 0, 0⟩ : S50) )) (Reps.none _ _))); intro v240 w15 ho16 hb hg_ hnew_; clear hg_ hnew_; (first | rw [← Ny239.out] at ho16 | (simp only [Int.reduceToNat] at ho16; rw [← Ny239.out] at ho16)); have n2_ := Aside0.mk (Kd.R_lower (Kd.R_new' (Kd.R_new' ho16 (Kd.R_lt (rn HO234))) (Kd.R_lt (rn HO238))) (below_size (bn HB))); replace HO234 := rl HO234 (Kd.R_base ho16) hb; replace HO238 := rl HO238 (Kd.R_base ho16) hb; have HO241 := n2_; replace HB := bb HB hb; clear n2_; clear hb ho16; obtain ⟨Ao17, co17, eo17⟩ := Kd.R_slice HO241.out; subst eo17) | ((with_reducible refine gate_callee (f := 15) rfl ?_); refine gl (some 16) Try.func15 #[.slice Ao17 y239.length co17] ?_; (with_reducible refine (batch_Pack.calls k _ _ y239 t242 t243 _ ?side1 ?side2 A2.out).mono ?_); (case side1 => exact rc HO241); (case side2 => exact rs HO241); rintro e w18 ⟨v244, rfl, ho0, hb⟩; refine ⟨_, rfl, ?_⟩; have n3_ := Aside0.mk (Kd.R_lower (Kd.R_new' (Kd.R_new' (Kd.R_new' ho0 (Kd.R_lt (rn HO234))) (Kd.R_lt (rn HO238))) (Kd.R_lt (rn HO241))) (below_size (bn HB))); replace HO234 := rl HO234 (Kd.R_base ho0) hb; replace HO238 := rl HO238 (Kd.R_base ho0) hb; replace HO241 := rl HO241 (Kd.R_base ho0) hb; have HO245 := n3_; replace HB := bb HB hb; clear n3_; (try clear hb); (try clear ho0); obtain ⟨Ao19, co19, eo19⟩ := Kd.R_slice HO238.out; subst eo19; have p246 : 0 ≤ (0 : Int) := (by omega); have q246 : 0 < (t235.length : Int) := of_decide_eq_true (by assumption); obtain ⟨ad246, e246, hx246_0, hx246_1, hx246_2⟩ := at_T50 (Kd.R_reads' HO238.out).2.2 0 p246 q246; cases e246; have qi246 : (0 < t235.length) = True := eq_true (by omega); (try rw [show ((0 : Int)).toNat = 0 from rfl] at hx246_0); (try rw [show 0 * 3 = 0 from rfl] at hx246_0); (try rw [Addr.add_zero'] at hx246_0); (try rw [show ((0 : Int)).toNat = 0 from rfl] at hx246_1); (try rw [show 0 * 3 = 0 from rfl] at hx246_1); (try rw [Addr.add_zero'] at hx246_1); (try rw [show ((0 : Int)).toNat = 0 from rfl] at hx246_2); (try rw [show 0 * 3 = 0 from rfl] at hx246_2); (try rw [Addr.add_zero'] at hx246_2); replace p246 := eq_true p246; replace q246 := eq_true q246) | (go_at_call 23; (with_reducible refine (batch_Of.calls k _ _ t235 0 7 t247 _ ?side1 ?side2 A8.out).mono ?_); (case side1 => exact rc HO238); (case side2 => exact rs HO238); rintro e w20 ⟨rfl, hb⟩; replace HO234 := rb HO234 hb; replace HO238 := rb HO238 hb; replace HO241 := rb HO241 hb; replace HO245 := rb HO245 hb; replace HB := bb HB hb; (try clear hb)) | (go_at_call 20; (with_reducible refine (batch_Right.calls k _ _ t235 t248 _ ?side1 ?side2 A10.out).mono ?_); (case side1 => exact rc HO238); (case side2 => exact rs HO238); rintro e w21 ⟨rfl, hb⟩; replace HO234 := rb HO234 hb; replace HO238 := rb HO238 hb; replace HO241 := rb HO241 hb; replace HO245 := rb HO245 hb; replace HB := bb HB hb; (try clear hb)))
       go_ret
       exact ⟨by first | rfl | (simp [errW_none, errW_some] <;> rfl) | (simp [*, errW_none, errW_some] <;> rfl), by repeat (first | (with_reducible first | exact HB.out | apply below_alloc | apply pw_below_drewN | apply below_drew1) | exact HB.out)⟩
      ·rw [if_neg c9] at H
       have c9b0 : (t247 == 1) = false := beq_eq_false_iff_ne.mpr c9
       have c9b1 : (t247 != 1) = true := bne_iff_ne.mpr c9
       obtain rfl := Option.some.inj H
       go_enter Try.func17, Try.ntmps17
       go_wp2_with (first | ((with_reducible refine gate_dst (N := 9) rfl ?_); (try (refine gate_guard (by rfl) ?_; dsimp only)); refine Kd.R_lit k50 _ 50 ?hg (N := 9) ?hd (xs := ([(⟨1, 5, 2⟩ : S50), (⟨0, 7, 1⟩ : S50), (⟨1, 5, (-2)⟩ : S50)] : List (S50))) (inner := [.int .i64 1, .int .u64 5, .int .i64 2, .int .i64 0, .int .u64 7, .int .i64 1, .int .i64 1, .int .u64 5, .int .i64 (-2)]) (ok := fun _ => True) (okp := fun _ => True) ?hr ?hp (fun _ hk => hk) trivial (Below.refl _ _) (Nat.le_refl _) (by simp) ?_; (case hd => rfl); (case hg => rfl); (case hr => first | (go_simp; done) | (go_simp; rfl)); (case hp => exact (Reps.c3 (show Kd.M k50 _ _ _ (⟨1, 5, 2⟩ : S50) [.int .i64 1, .int .u64 5, .int .i64 2] from (k50_mkM _ _ _ (⟨1, 5, 2⟩ : S50) )) (Reps.c3 (show Kd.M k50 _ _ _ (⟨0, 7, 1⟩ : S50) [.int .i64 0, .int .u64 7, .int .i64 1] from (k50_mkM _ _ _ (⟨0, 7, 1⟩ : S50) )) (Reps.c3 (show Kd.M k50 _ _ _ (⟨1, 5, (-2)⟩ : S50) [.int .i64 1, .int .u64 5, .int .i64 (-2)] from (k50_mkM _ _ _ (⟨1, 5, (-2)⟩ : S50) )) (Reps.none _ _))))); intro v233 w22 ho23 hb hg_ hnew_; clear hg_ hnew_; (first | rw [← Ny232.out] at ho23 | (simp only [Int.reduceToNat] at ho23; rw [← Ny232.out] at ho23)); have n0_ := Aside0.mk (Kd.R_lower ho23 (below_size (bn HB))); have HO234 := n0_; replace HB := bb HB hb; clear n0_; clear hb ho23; obtain ⟨Ao24, co24, eo24⟩ := Kd.R_slice HO234.out; subst eo24) | ((with_reducible refine gate_callee (f := 15) rfl ?_); refine gl (some 10) Try.func15 #[.slice Ao24 y232.length co24] ?_; (with_reducible refine (batch_Pack.calls k _ _ y232 t235 t236 _ ?side1 ?side2 A1.out).mono ?_); (case side1 => exact rc HO234); (case side2 => exact rs HO234); rintro e w25 ⟨v237, rfl, ho0, hb⟩; refine ⟨_, rfl, ?_⟩; have n1_ := Aside0.mk (Kd.R_lower (Kd.R_new' ho0 (Kd.R_lt (rn HO234))) (below_size (bn HB))); replace HO234 := rl HO234 (Kd.R_base ho0) hb; have HO238 := n1_; replace HB := bb HB hb; clear n1_; (try clear hb); (try clear ho0)) | ((with_reducible refine gate_dst (N := 15) rfl ?_); (try (refine gate_guard (by rfl) ?_; dsimp only)); refine Kd.R_lit k50 _ 50 ?hg (N := 15) ?hd (xs := ([(⟨64, 0, 0⟩ : S50)] : List (S50))) (inner := [.int .i64 64, .int .u64 0, .int .i64 0]) (ok := fun _ => True) (okp := fun _ => True) ?hr ?hp (fun _ hk => hk) trivial (Below.refl _ _) (Nat.le_refl _) (by simp) ?_; (case hd => rfl); (case hg => rfl); (case hr => first | (go_simp; done) | (go_simp; rfl)); (case hp => exact (Reps.c3 (show Kd.M k50 _ _ _ (⟨64, 0, 0⟩ : S50) [.int .i64 64, .int .u64 0, .int .i64 0] from (k50_mkM _ _ _ (⟨64, 0, 0⟩ : S50) )) (Reps.none _ _))); intro v240 w26 ho27 hb hg_ hnew_; clear hg_ hnew_; (first | rw [← Ny239.out] at ho27 | (simp only [Int.reduceToNat] at ho27; rw [← Ny239.out] at ho27)); have n2_ := Aside0.mk (Kd.R_lower (Kd.R_new' (Kd.R_new' ho27 (Kd.R_lt (rn HO234))) (Kd.R_lt (rn HO238))) (below_size (bn HB))); replace HO234 := rl HO234 (Kd.R_base ho27) hb; replace HO238 := rl HO238 (Kd.R_base ho27) hb; have HO241 := n2_; replace HB := bb HB hb; clear n2_; clear hb ho27; obtain ⟨Ao28, co28, eo28⟩ := Kd.R_slice HO241.out; subst eo28) | ((with_reducible refine gate_callee (f := 15) rfl ?_); refine gl (some 16) Try.func15 #[.slice Ao28 y239.length co28] ?_; (with_reducible refine (batch_Pack.calls k _ _ y239 t242 t243 _ ?side1 ?side2 A2.out).mono ?_); (case side1 => exact rc HO241); (case side2 => exact rs HO241); rintro e w29 ⟨v244, rfl, ho0, hb⟩; refine ⟨_, rfl, ?_⟩; have n3_ := Aside0.mk (Kd.R_lower (Kd.R_new' (Kd.R_new' (Kd.R_new' ho0 (Kd.R_lt (rn HO234))) (Kd.R_lt (rn HO238))) (Kd.R_lt (rn HO241))) (below_size (bn HB))); replace HO234 := rl HO234 (Kd.R_base ho0) hb; replace HO238 := rl HO238 (Kd.R_base ho0) hb; replace HO241 := rl HO241 (Kd.R_base ho0) hb; have HO245 := n3_; replace HB := bb HB hb; clear n3_; (try clear hb); (try clear ho0); obtain ⟨Ao30, co30, eo30⟩ := Kd.R_slice HO238.out; subst eo30; have p246 : 0 ≤ (0 : Int) := (by omega); have q246 : 0 < (t235.length : Int) := of_decide_eq_true (by assumption); obtain ⟨ad246, e246, hx246_0, hx246_1, hx246_2⟩ := at_T50 (Kd.R_reads' HO238.out).2.2 0 p246 q246; cases e246; have qi246 : (0 < t235.length) = True := eq_true (by omega); (try rw [show ((0 : Int)).toNat = 0 from rfl] at hx246_0); (try rw [show 0 * 3 = 0 from rfl] at hx246_0); (try rw [Addr.add_zero'] at hx246_0); (try rw [show ((0 : Int)).toNat = 0 from rfl] at hx246_1); (try rw [show 0 * 3 = 0 from rfl] at hx246_1); (try rw [Addr.add_zero'] at hx246_1); (try rw [show ((0 : Int)).toNat = 0 from rfl] at hx246_2); (try rw [show 0 * 3 = 0 from rfl] at hx246_2); (try rw [Addr.add_zero'] at hx246_2); replace p246 := eq_true p246; replace q246 := eq_true q246) | (go_at_call 23; (with_reducible refine (batch_Of.calls k _ _ t235 0 7 t247 _ ?side1 ?side2 A8.out).mono ?_); (case side1 => exact rc HO238); (case side2 => exact rs HO238); rintro e w31 ⟨rfl, hb⟩; replace HO234 := rb HO234 hb; replace HO238 := rb HO238 hb; replace HO241 := rb HO241 hb; replace HO245 := rb HO245 hb; replace HB := bb HB hb; (try clear hb)))
       go_ret
       exact ⟨by first | rfl | (simp [errW_none, errW_some] <;> rfl) | (simp [*, errW_none, errW_some] <;> rfl), by repeat (first | (with_reducible first | exact HB.out | apply below_alloc | apply pw_below_drewN | apply below_drew1) | exact HB.out)⟩
     ·rw [if_neg c7] at H
      have c7b0 : (t243 == 2) = false := beq_eq_false_iff_ne.mpr c7
      have c7b1 : (t243 != 2) = true := bne_iff_ne.mpr c7
      obtain rfl := Option.some.inj H
      go_enter Try.func17, Try.ntmps17
      go_wp2_with (first | ((with_reducible refine gate_dst (N := 9) rfl ?_); (try (refine gate_guard (by rfl) ?_; dsimp only)); refine Kd.R_lit k50 _ 50 ?hg (N := 9) ?hd (xs := ([(⟨1, 5, 2⟩ : S50), (⟨0, 7, 1⟩ : S50), (⟨1, 5, (-2)⟩ : S50)] : List (S50))) (inner := [.int .i64 1, .int .u64 5, .int .i64 2, .int .i64 0, .int .u64 7, .int .i64 1, .int .i64 1, .int .u64 5, .int .i64 (-2)]) (ok := fun _ => True) (okp := fun _ => True) ?hr ?hp (fun _ hk => hk) trivial (Below.refl _ _) (Nat.le_refl _) (by simp) ?_; (case hd => rfl); (case hg => rfl); (case hr => first | (go_simp; done) | (go_simp; rfl)); (case hp => exact (Reps.c3 (show Kd.M k50 _ _ _ (⟨1, 5, 2⟩ : S50) [.int .i64 1, .int .u64 5, .int .i64 2] from (k50_mkM _ _ _ (⟨1, 5, 2⟩ : S50) )) (Reps.c3 (show Kd.M k50 _ _ _ (⟨0, 7, 1⟩ : S50) [.int .i64 0, .int .u64 7, .int .i64 1] from (k50_mkM _ _ _ (⟨0, 7, 1⟩ : S50) )) (Reps.c3 (show Kd.M k50 _ _ _ (⟨1, 5, (-2)⟩ : S50) [.int .i64 1, .int .u64 5, .int .i64 (-2)] from (k50_mkM _ _ _ (⟨1, 5, (-2)⟩ : S50) )) (Reps.none _ _))))); intro v233 w32 ho33 hb hg_ hnew_; clear hg_ hnew_; (first | rw [← Ny232.out] at ho33 | (simp only [Int.reduceToNat] at ho33; rw [← Ny232.out] at ho33)); have n0_ := Aside0.mk (Kd.R_lower ho33 (below_size (bn HB))); have HO234 := n0_; replace HB := bb HB hb; clear n0_; clear hb ho33; obtain ⟨Ao34, co34, eo34⟩ := Kd.R_slice HO234.out; subst eo34) | ((with_reducible refine gate_callee (f := 15) rfl ?_); refine gl (some 10) Try.func15 #[.slice Ao34 y232.length co34] ?_; (with_reducible refine (batch_Pack.calls k _ _ y232 t235 t236 _ ?side1 ?side2 A1.out).mono ?_); (case side1 => exact rc HO234); (case side2 => exact rs HO234); rintro e w35 ⟨v237, rfl, ho0, hb⟩; refine ⟨_, rfl, ?_⟩; have n1_ := Aside0.mk (Kd.R_lower (Kd.R_new' ho0 (Kd.R_lt (rn HO234))) (below_size (bn HB))); replace HO234 := rl HO234 (Kd.R_base ho0) hb; have HO238 := n1_; replace HB := bb HB hb; clear n1_; (try clear hb); (try clear ho0)) | ((with_reducible refine gate_dst (N := 15) rfl ?_); (try (refine gate_guard (by rfl) ?_; dsimp only)); refine Kd.R_lit k50 _ 50 ?hg (N := 15) ?hd (xs := ([(⟨64, 0, 0⟩ : S50)] : List (S50))) (inner := [.int .i64 64, .int .u64 0, .int .i64 0]) (ok := fun _ => True) (okp := fun _ => True) ?hr ?hp (fun _ hk => hk) trivial (Below.refl _ _) (Nat.le_refl _) (by simp) ?_; (case hd => rfl); (case hg => rfl); (case hr => first | (go_simp; done) | (go_simp; rfl)); (case hp => exact (Reps.c3 (show Kd.M k50 _ _ _ (⟨64, 0, 0⟩ : S50) [.int .i64 64, .int .u64 0, .int .i64 0] from (k50_mkM _ _ _ (⟨64, 0, 0⟩ : S50) )) (Reps.none _ _))); intro v240 w36 ho37 hb hg_ hnew_; clear hg_ hnew_; (first | rw [← Ny239.out] at ho37 | (simp only [Int.reduceToNat] at ho37; rw [← Ny239.out] at ho37)); have n2_ := Aside0.mk (Kd.R_lower (Kd.R_new' (Kd.R_new' ho37 (Kd.R_lt (rn HO234))) (Kd.R_lt (rn HO238))) (below_size (bn HB))); replace HO234 := rl HO234 (Kd.R_base ho37) hb; replace HO238 := rl HO238 (Kd.R_base ho37) hb; have HO241 := n2_; replace HB := bb HB hb; clear n2_; clear hb ho37; obtain ⟨Ao38, co38, eo38⟩ := Kd.R_slice HO241.out; subst eo38) | ((with_reducible refine gate_callee (f := 15) rfl ?_); refine gl (some 16) Try.func15 #[.slice Ao38 y239.length co38] ?_; (with_reducible refine (batch_Pack.calls k _ _ y239 t242 t243 _ ?side1 ?side2 A2.out).mono ?_); (case side1 => exact rc HO241); (case side2 => exact rs HO241); rintro e w39 ⟨v244, rfl, ho0, hb⟩; refine ⟨_, rfl, ?_⟩; have n3_ := Aside0.mk (Kd.R_lower (Kd.R_new' (Kd.R_new' (Kd.R_new' ho0 (Kd.R_lt (rn HO234))) (Kd.R_lt (rn HO238))) (Kd.R_lt (rn HO241))) (below_size (bn HB))); replace HO234 := rl HO234 (Kd.R_base ho0) hb; replace HO238 := rl HO238 (Kd.R_base ho0) hb; replace HO241 := rl HO241 (Kd.R_base ho0) hb; have HO245 := n3_; replace HB := bb HB hb; clear n3_; (try clear hb); (try clear ho0); obtain ⟨Ao40, co40, eo40⟩ := Kd.R_slice HO238.out; subst eo40; have p246 : 0 ≤ (0 : Int) := (by omega); have q246 : 0 < (t235.length : Int) := of_decide_eq_true (by assumption); obtain ⟨ad246, e246, hx246_0, hx246_1, hx246_2⟩ := at_T50 (Kd.R_reads' HO238.out).2.2 0 p246 q246; cases e246; have qi246 : (0 < t235.length) = True := eq_true (by omega); (try rw [show ((0 : Int)).toNat = 0 from rfl] at hx246_0); (try rw [show 0 * 3 = 0 from rfl] at hx246_0); (try rw [Addr.add_zero'] at hx246_0); (try rw [show ((0 : Int)).toNat = 0 from rfl] at hx246_1); (try rw [show 0 * 3 = 0 from rfl] at hx246_1); (try rw [Addr.add_zero'] at hx246_1); (try rw [show ((0 : Int)).toNat = 0 from rfl] at hx246_2); (try rw [show 0 * 3 = 0 from rfl] at hx246_2); (try rw [Addr.add_zero'] at hx246_2); replace p246 := eq_true p246; replace q246 := eq_true q246))
      go_ret
      exact ⟨by first | rfl | (simp [errW_none, errW_some] <;> rfl) | (simp [*, errW_none, errW_some] <;> rfl), by repeat (first | (with_reducible first | exact HB.out | apply below_alloc | apply pw_below_drewN | apply below_drew1) | exact HB.out)⟩
    ·rw [if_neg c6] at H
     have c6b0 : (((rd_T50 t235 0).f1) == 7) = false := beq_eq_false_iff_ne.mpr c6
     have c6b1 : (((rd_T50 t235 0).f1) != 7) = true := bne_iff_ne.mpr c6
     obtain rfl := Option.some.inj H
     go_enter Try.func17, Try.ntmps17
     go_wp2_with (first | ((with_reducible refine gate_dst (N := 9) rfl ?_); (try (refine gate_guard (by rfl) ?_; dsimp only)); refine Kd.R_lit k50 _ 50 ?hg (N := 9) ?hd (xs := ([(⟨1, 5, 2⟩ : S50), (⟨0, 7, 1⟩ : S50), (⟨1, 5, (-2)⟩ : S50)] : List (S50))) (inner := [.int .i64 1, .int .u64 5, .int .i64 2, .int .i64 0, .int .u64 7, .int .i64 1, .int .i64 1, .int .u64 5, .int .i64 (-2)]) (ok := fun _ => True) (okp := fun _ => True) ?hr ?hp (fun _ hk => hk) trivial (Below.refl _ _) (Nat.le_refl _) (by simp) ?_; (case hd => rfl); (case hg => rfl); (case hr => first | (go_simp; done) | (go_simp; rfl)); (case hp => exact (Reps.c3 (show Kd.M k50 _ _ _ (⟨1, 5, 2⟩ : S50) [.int .i64 1, .int .u64 5, .int .i64 2] from (k50_mkM _ _ _ (⟨1, 5, 2⟩ : S50) )) (Reps.c3 (show Kd.M k50 _ _ _ (⟨0, 7, 1⟩ : S50) [.int .i64 0, .int .u64 7, .int .i64 1] from (k50_mkM _ _ _ (⟨0, 7, 1⟩ : S50) )) (Reps.c3 (show Kd.M k50 _ _ _ (⟨1, 5, (-2)⟩ : S50) [.int .i64 1, .int .u64 5, .int .i64 (-2)] from (k50_mkM _ _ _ (⟨1, 5, (-2)⟩ : S50) )) (Reps.none _ _))))); intro v233 w41 ho42 hb hg_ hnew_; clear hg_ hnew_; (first | rw [← Ny232.out] at ho42 | (simp only [Int.reduceToNat] at ho42; rw [← Ny232.out] at ho42)); have n0_ := Aside0.mk (Kd.R_lower ho42 (below_size (bn HB))); have HO234 := n0_; replace HB := bb HB hb; clear n0_; clear hb ho42; obtain ⟨Ao43, co43, eo43⟩ := Kd.R_slice HO234.out; subst eo43) | ((with_reducible refine gate_callee (f := 15) rfl ?_); refine gl (some 10) Try.func15 #[.slice Ao43 y232.length co43] ?_; (with_reducible refine (batch_Pack.calls k _ _ y232 t235 t236 _ ?side1 ?side2 A1.out).mono ?_); (case side1 => exact rc HO234); (case side2 => exact rs HO234); rintro e w44 ⟨v237, rfl, ho0, hb⟩; refine ⟨_, rfl, ?_⟩; have n1_ := Aside0.mk (Kd.R_lower (Kd.R_new' ho0 (Kd.R_lt (rn HO234))) (below_size (bn HB))); replace HO234 := rl HO234 (Kd.R_base ho0) hb; have HO238 := n1_; replace HB := bb HB hb; clear n1_; (try clear hb); (try clear ho0)) | ((with_reducible refine gate_dst (N := 15) rfl ?_); (try (refine gate_guard (by rfl) ?_; dsimp only)); refine Kd.R_lit k50 _ 50 ?hg (N := 15) ?hd (xs := ([(⟨64, 0, 0⟩ : S50)] : List (S50))) (inner := [.int .i64 64, .int .u64 0, .int .i64 0]) (ok := fun _ => True) (okp := fun _ => True) ?hr ?hp (fun _ hk => hk) trivial (Below.refl _ _) (Nat.le_refl _) (by simp) ?_; (case hd => rfl); (case hg => rfl); (case hr => first | (go_simp; done) | (go_simp; rfl)); (case hp => exact (Reps.c3 (show Kd.M k50 _ _ _ (⟨64, 0, 0⟩ : S50) [.int .i64 64, .int .u64 0, .int .i64 0] from (k50_mkM _ _ _ (⟨64, 0, 0⟩ : S50) )) (Reps.none _ _))); intro v240 w45 ho46 hb hg_ hnew_; clear hg_ hnew_; (first | rw [← Ny239.out] at ho46 | (simp only [Int.reduceToNat] at ho46; rw [← Ny239.out] at ho46)); have n2_ := Aside0.mk (Kd.R_lower (Kd.R_new' (Kd.R_new' ho46 (Kd.R_lt (rn HO234))) (Kd.R_lt (rn HO238))) (below_size (bn HB))); replace HO234 := rl HO234 (Kd.R_base ho46) hb; replace HO238 := rl HO238 (Kd.R_base ho46) hb; have HO241 := n2_; replace HB := bb HB hb; clear n2_; clear hb ho46; obtain ⟨Ao47, co47, eo47⟩ := Kd.R_slice HO241.out; subst eo47) | ((with_reducible refine gate_callee (f := 15) rfl ?_); refine gl (some 16) Try.func15 #[.slice Ao47 y239.length co47] ?_; (with_reducible refine (batch_Pack.calls k _ _ y239 t242 t243 _ ?side1 ?side2 A2.out).mono ?_); (case side1 => exact rc HO241); (case side2 => exact rs HO241); rintro e w48 ⟨v244, rfl, ho0, hb⟩; refine ⟨_, rfl, ?_⟩; have n3_ := Aside0.mk (Kd.R_lower (Kd.R_new' (Kd.R_new' (Kd.R_new' ho0 (Kd.R_lt (rn HO234))) (Kd.R_lt (rn HO238))) (Kd.R_lt (rn HO241))) (below_size (bn HB))); replace HO234 := rl HO234 (Kd.R_base ho0) hb; replace HO238 := rl HO238 (Kd.R_base ho0) hb; replace HO241 := rl HO241 (Kd.R_base ho0) hb; have HO245 := n3_; replace HB := bb HB hb; clear n3_; (try clear hb); (try clear ho0); obtain ⟨Ao49, co49, eo49⟩ := Kd.R_slice HO238.out; subst eo49; have p246 : 0 ≤ (0 : Int) := (by omega); have q246 : 0 < (t235.length : Int) := of_decide_eq_true (by assumption); obtain ⟨ad246, e246, hx246_0, hx246_1, hx246_2⟩ := at_T50 (Kd.R_reads' HO238.out).2.2 0 p246 q246; cases e246; have qi246 : (0 < t235.length) = True := eq_true (by omega); (try rw [show ((0 : Int)).toNat = 0 from rfl] at hx246_0); (try rw [show 0 * 3 = 0 from rfl] at hx246_0); (try rw [Addr.add_zero'] at hx246_0); (try rw [show ((0 : Int)).toNat = 0 from rfl] at hx246_1); (try rw [show 0 * 3 = 0 from rfl] at hx246_1); (try rw [Addr.add_zero'] at hx246_1); (try rw [show ((0 : Int)).toNat = 0 from rfl] at hx246_2); (try rw [show 0 * 3 = 0 from rfl] at hx246_2); (try rw [Addr.add_zero'] at hx246_2); replace p246 := eq_true p246; replace q246 := eq_true q246))
     go_ret
     exact ⟨by first | rfl | (simp [errW_none, errW_some] <;> rfl) | (simp [*, errW_none, errW_some] <;> rfl), by repeat (first | (with_reducible first | exact HB.out | apply below_alloc | apply pw_below_drewN | apply below_drew1) | exact HB.out)⟩
   ·rw [if_neg c5] at H
    exact absurd H (by simp)
  ·rw [if_neg c4] at H
   have c4b0 : ((t235.length : Int) == 1) = false := beq_eq_false_iff_ne.mpr c4
   have c4b1 : ((t235.length : Int) != 1) = true := bne_iff_ne.mpr c4
   obtain rfl := Option.some.inj H
   go_enter Try.func17, Try.ntmps17
   go_wp2_with (first | ((with_reducible refine gate_dst (N := 9) rfl ?_); (try (refine gate_guard (by rfl) ?_; dsimp only)); refine Kd.R_lit k50 _ 50 ?hg (N := 9) ?hd (xs := ([(⟨1, 5, 2⟩ : S50), (⟨0, 7, 1⟩ : S50), (⟨1, 5, (-2)⟩ : S50)] : List (S50))) (inner := [.int .i64 1, .int .u64 5, .int .i64 2, .int .i64 0, .int .u64 7, .int .i64 1, .int .i64 1, .int .u64 5, .int .i64 (-2)]) (ok := fun _ => True) (okp := fun _ => True) ?hr ?hp (fun _ hk => hk) trivial (Below.refl _ _) (Nat.le_refl _) (by simp) ?_; (case hd => rfl); (case hg => rfl); (case hr => first | (go_simp; done) | (go_simp; rfl)); (case hp => exact (Reps.c3 (show Kd.M k50 _ _ _ (⟨1, 5, 2⟩ : S50) [.int .i64 1, .int .u64 5, .int .i64 2] from (k50_mkM _ _ _ (⟨1, 5, 2⟩ : S50) )) (Reps.c3 (show Kd.M k50 _ _ _ (⟨0, 7, 1⟩ : S50) [.int .i64 0, .int .u64 7, .int .i64 1] from (k50_mkM _ _ _ (⟨0, 7, 1⟩ : S50) )) (Reps.c3 (show Kd.M k50 _ _ _ (⟨1, 5, (-2)⟩ : S50) [.int .i64 1, .int .u64 5, .int .i64 (-2)] from (k50_mkM _ _ _ (⟨1, 5, (-2)⟩ : S50) )) (Reps.none _ _))))); intro v233 w50 ho51 hb hg_ hnew_; clear hg_ hnew_; (first | rw [← Ny232.out] at ho51 | (simp only [Int.reduceToNat] at ho51; rw [← Ny232.out] at ho51)); have n0_ := Aside0.mk (Kd.R_lower ho51 (below_size (bn HB))); have HO234 := n0_; replace HB := bb HB hb; clear n0_; clear hb ho51; obtain ⟨Ao52, co52, eo52⟩ := Kd.R_slice HO234.out; subst eo52) | ((with_reducible refine gate_callee (f := 15) rfl ?_); refine gl (some 10) Try.func15 #[.slice Ao52 y232.length co52] ?_; (with_reducible refine (batch_Pack.calls k _ _ y232 t235 t236 _ ?side1 ?side2 A1.out).mono ?_); (case side1 => exact rc HO234); (case side2 => exact rs HO234); rintro e w53 ⟨v237, rfl, ho0, hb⟩; refine ⟨_, rfl, ?_⟩; have n1_ := Aside0.mk (Kd.R_lower (Kd.R_new' ho0 (Kd.R_lt (rn HO234))) (below_size (bn HB))); replace HO234 := rl HO234 (Kd.R_base ho0) hb; have HO238 := n1_; replace HB := bb HB hb; clear n1_; (try clear hb); (try clear ho0)) | ((with_reducible refine gate_dst (N := 15) rfl ?_); (try (refine gate_guard (by rfl) ?_; dsimp only)); refine Kd.R_lit k50 _ 50 ?hg (N := 15) ?hd (xs := ([(⟨64, 0, 0⟩ : S50)] : List (S50))) (inner := [.int .i64 64, .int .u64 0, .int .i64 0]) (ok := fun _ => True) (okp := fun _ => True) ?hr ?hp (fun _ hk => hk) trivial (Below.refl _ _) (Nat.le_refl _) (by simp) ?_; (case hd => rfl); (case hg => rfl); (case hr => first | (go_simp; done) | (go_simp; rfl)); (case hp => exact (Reps.c3 (show Kd.M k50 _ _ _ (⟨64, 0, 0⟩ : S50) [.int .i64 64, .int .u64 0, .int .i64 0] from (k50_mkM _ _ _ (⟨64, 0, 0⟩ : S50) )) (Reps.none _ _))); intro v240 w54 ho55 hb hg_ hnew_; clear hg_ hnew_; (first | rw [← Ny239.out] at ho55 | (simp only [Int.reduceToNat] at ho55; rw [← Ny239.out] at ho55)); have n2_ := Aside0.mk (Kd.R_lower (Kd.R_new' (Kd.R_new' ho55 (Kd.R_lt (rn HO234))) (Kd.R_lt (rn HO238))) (below_size (bn HB))); replace HO234 := rl HO234 (Kd.R_base ho55) hb; replace HO238 := rl HO238 (Kd.R_base ho55) hb; have HO241 := n2_; replace HB := bb HB hb; clear n2_; clear hb ho55; obtain ⟨Ao56, co56, eo56⟩ := Kd.R_slice HO241.out; subst eo56) | ((with_reducible refine gate_callee (f := 15) rfl ?_); refine gl (some 16) Try.func15 #[.slice Ao56 y239.length co56] ?_; (with_reducible refine (batch_Pack.calls k _ _ y239 t242 t243 _ ?side1 ?side2 A2.out).mono ?_); (case side1 => exact rc HO241); (case side2 => exact rs HO241); rintro e w57 ⟨v244, rfl, ho0, hb⟩; refine ⟨_, rfl, ?_⟩; have n3_ := Aside0.mk (Kd.R_lower (Kd.R_new' (Kd.R_new' (Kd.R_new' ho0 (Kd.R_lt (rn HO234))) (Kd.R_lt (rn HO238))) (Kd.R_lt (rn HO241))) (below_size (bn HB))); replace HO234 := rl HO234 (Kd.R_base ho0) hb; replace HO238 := rl HO238 (Kd.R_base ho0) hb; replace HO241 := rl HO241 (Kd.R_base ho0) hb; have HO245 := n3_; replace HB := bb HB hb; clear n3_; (try clear hb); (try clear ho0); obtain ⟨Ao58, co58, eo58⟩ := Kd.R_slice HO238.out; subst eo58))
   go_ret
   exact ⟨by first | rfl | (simp [errW_none, errW_some] <;> rfl) | (simp [*, errW_none, errW_some] <;> rfl), by repeat (first | (with_reducible first | exact HB.out | apply below_alloc | apply pw_below_drewN | apply below_drew1) | exact HB.out)⟩
 ·rw [if_neg c3] at H
  have c3b0 : (t236 == 0) = false := beq_eq_false_iff_ne.mpr c3
  have c3b1 : (t236 != 0) = true := bne_iff_ne.mpr c3
  obtain rfl := Option.some.inj H
  go_enter Try.func17, Try.ntmps17
  go_wp2_with (first | ((with_reducible refine gate_dst (N := 9) rfl ?_); (try (refine gate_guard (by rfl) ?_; dsimp only)); refine Kd.R_lit k50 _ 50 ?hg (N := 9) ?hd (xs := ([(⟨1, 5, 2⟩ : S50), (⟨0, 7, 1⟩ : S50), (⟨1, 5, (-2)⟩ : S50)] : List (S50))) (inner := [.int .i64 1, .int .u64 5, .int .i64 2, .int .i64 0, .int .u64 7, .int .i64 1, .int .i64 1, .int .u64 5, .int .i64 (-2)]) (ok := fun _ => True) (okp := fun _ => True) ?hr ?hp (fun _ hk => hk) trivial (Below.refl _ _) (Nat.le_refl _) (by simp) ?_; (case hd => rfl); (case hg => rfl); (case hr => first | (go_simp; done) | (go_simp; rfl)); (case hp => exact (Reps.c3 (show Kd.M k50 _ _ _ (⟨1, 5, 2⟩ : S50) [.int .i64 1, .int .u64 5, .int .i64 2] from (k50_mkM _ _ _ (⟨1, 5, 2⟩ : S50) )) (Reps.c3 (show Kd.M k50 _ _ _ (⟨0, 7, 1⟩ : S50) [.int .i64 0, .int .u64 7, .int .i64 1] from (k50_mkM _ _ _ (⟨0, 7, 1⟩ : S50) )) (Reps.c3 (show Kd.M k50 _ _ _ (⟨1, 5, (-2)⟩ : S50) [.int .i64 1, .int .u64 5, .int .i64 (-2)] from (k50_mkM _ _ _ (⟨1, 5, (-2)⟩ : S50) )) (Reps.none _ _))))); intro v233 w59 ho60 hb hg_ hnew_; clear hg_ hnew_; (first | rw [← Ny232.out] at ho60 | (simp only [Int.reduceToNat] at ho60; rw [← Ny232.out] at ho60)); have n0_ := Aside0.mk (Kd.R_lower ho60 (below_size (bn HB))); have HO234 := n0_; replace HB := bb HB hb; clear n0_; clear hb ho60; obtain ⟨Ao61, co61, eo61⟩ := Kd.R_slice HO234.out; subst eo61) | ((with_reducible refine gate_callee (f := 15) rfl ?_); refine gl (some 10) Try.func15 #[.slice Ao61 y232.length co61] ?_; (with_reducible refine (batch_Pack.calls k _ _ y232 t235 t236 _ ?side1 ?side2 A1.out).mono ?_); (case side1 => exact rc HO234); (case side2 => exact rs HO234); rintro e w62 ⟨v237, rfl, ho0, hb⟩; refine ⟨_, rfl, ?_⟩; have n1_ := Aside0.mk (Kd.R_lower (Kd.R_new' ho0 (Kd.R_lt (rn HO234))) (below_size (bn HB))); replace HO234 := rl HO234 (Kd.R_base ho0) hb; have HO238 := n1_; replace HB := bb HB hb; clear n1_; (try clear hb); (try clear ho0)) | ((with_reducible refine gate_dst (N := 15) rfl ?_); (try (refine gate_guard (by rfl) ?_; dsimp only)); refine Kd.R_lit k50 _ 50 ?hg (N := 15) ?hd (xs := ([(⟨64, 0, 0⟩ : S50)] : List (S50))) (inner := [.int .i64 64, .int .u64 0, .int .i64 0]) (ok := fun _ => True) (okp := fun _ => True) ?hr ?hp (fun _ hk => hk) trivial (Below.refl _ _) (Nat.le_refl _) (by simp) ?_; (case hd => rfl); (case hg => rfl); (case hr => first | (go_simp; done) | (go_simp; rfl)); (case hp => exact (Reps.c3 (show Kd.M k50 _ _ _ (⟨64, 0, 0⟩ : S50) [.int .i64 64, .int .u64 0, .int .i64 0] from (k50_mkM _ _ _ (⟨64, 0, 0⟩ : S50) )) (Reps.none _ _))); intro v240 w63 ho64 hb hg_ hnew_; clear hg_ hnew_; (first | rw [← Ny239.out] at ho64 | (simp only [Int.reduceToNat] at ho64; rw [← Ny239.out] at ho64)); have n2_ := Aside0.mk (Kd.R_lower (Kd.R_new' (Kd.R_new' ho64 (Kd.R_lt (rn HO234))) (Kd.R_lt (rn HO238))) (below_size (bn HB))); replace HO234 := rl HO234 (Kd.R_base ho64) hb; replace HO238 := rl HO238 (Kd.R_base ho64) hb; have HO241 := n2_; replace HB := bb HB hb; clear n2_; clear hb ho64; obtain ⟨Ao65, co65, eo65⟩ := Kd.R_slice HO241.out; subst eo65) | ((with_reducible refine gate_callee (f := 15) rfl ?_); refine gl (some 16) Try.func15 #[.slice Ao65 y239.length co65] ?_; (with_reducible refine (batch_Pack.calls k _ _ y239 t242 t243 _ ?side1 ?side2 A2.out).mono ?_); (case side1 => exact rc HO241); (case side2 => exact rs HO241); rintro e w66 ⟨v244, rfl, ho0, hb⟩; refine ⟨_, rfl, ?_⟩; have n3_ := Aside0.mk (Kd.R_lower (Kd.R_new' (Kd.R_new' (Kd.R_new' ho0 (Kd.R_lt (rn HO234))) (Kd.R_lt (rn HO238))) (Kd.R_lt (rn HO241))) (below_size (bn HB))); replace HO234 := rl HO234 (Kd.R_base ho0) hb; replace HO238 := rl HO238 (Kd.R_base ho0) hb; replace HO241 := rl HO241 (Kd.R_base ho0) hb; have HO245 := n3_; replace HB := bb HB hb; clear n3_; (try clear hb); (try clear ho0)))
  go_ret
  exact ⟨by first | rfl | (simp [errW_none, errW_some] <;> rfl) | (simp [*, errW_none, errW_some] <;> rfl), by repeat (first | (with_reducible first | exact HB.out | apply below_alloc | apply pw_below_drewN | apply below_drew1) | exact HB.out)⟩
end Go.Proofs.Ytgeldmhgbnamcaa.P
end
section
-- Printed by the session's own turn of the print (wip/tools/print2.sh): some callees are proved by hand.
namespace Go.Proofs.Ytgeldmhgbnamcaa.P
open Go.RowKit Go.Proofs.YtgeldmhgbnamcaaW.PrintWords Go.Proofs.YtgeldmhgbnamcaaW.PrintLast Go.Proofs.YtgeldmhgbnamcaaW.PrintMore
attribute [local go_sem] max2_int min2_int max_two min_two max_three min_three max_four min_four   -- for this text's walks alone
set_option linter.unusedVariables false
set_option linter.unusedSimpArgs false
/-! ### marchlandlaw03_To: function 14 -/
def marchlandlaw03_To.l0 : Nat → List (S40) → List (S50) → Int → Option ((List (S50)))
 | 0, _, _, _ => none
 | k + 1, x0, x3, x4 => if x4 < (x0.length : Int) then (if 0 ≤ x4 then (if x3.length < 5864062014805 then (marchlandlaw03_To.l0 k x0 (x3 ++ [(⟨(rd_T40 x0 x4).f0, (rd_T40 x0 x4).f1, (rd_T40 x0 x4).f2⟩ : S50)]) (wrap64 (x4 + 1))) else (none)) else (none)) else (some x3)
def marchlandlaw03_To.f (k : Nat) (l0 : List (S40)) : Option ((List (S50))) := marchlandlaw03_To.l0 k l0 ([] : List (S50)) 0
theorem marchlandlaw03_To.mono_l : ∀ k, (∀ y0 y1 y2, LeO (marchlandlaw03_To.l0 k y0 y1 y2) (marchlandlaw03_To.l0 (k + 1) y0 y1 y2))
 | 0 => fun _ _ _ r h => by simp [marchlandlaw03_To.l0] at h
 | k + 1 => by
  have ih0 := marchlandlaw03_To.mono_l k
  ·intro y0 y1 y2
   unfold marchlandlaw03_To.l0
   repeat' first
   | (with_reducible exact ih0 _ _ _)
   | (with_reducible exact LeO.refl _)
   | (with_reducible exact LeO.none _)
   | (with_reducible refine LeO.ite ?_ ?_)
   | (with_reducible refine LeO.bind ?_ (fun _ => ?_))
   | exact ih0 _ _ _
   | exact LeO.none _
   | refine LeO.ite ?_ ?_
   | refine LeO.bind ?_ (fun _ => ?_)
theorem marchlandlaw03_To.mono : ∀ a0 k, LeO (marchlandlaw03_To.f k a0) (marchlandlaw03_To.f (k + 1) a0) := by
 intro a0 k
 have ih0 := marchlandlaw03_To.mono_l k
 unfold marchlandlaw03_To.f
 repeat' first
   | (with_reducible exact ih0 _ _ _)
   | (with_reducible exact LeO.refl _)
   | (with_reducible exact LeO.none _)
   | (with_reducible refine LeO.ite ?_ ?_)
   | (with_reducible refine LeO.bind ?_ (fun _ => ?_))
   | exact ih0 _ _ _
   | exact LeO.none _
   | refine LeO.ite ?_ ?_
   | refine LeO.bind ?_ (fun _ => ?_)
def marchlandlaw03_To.T5 : Bool × List (List Nat × List Nat) := (true, [([], []), ([], []), ([], []), ([1, 2], [1, 2]), ([3], [3]), ([4], [4]), ([], []), ([], []), ([6, 7], [6, 7]), ([8], [8]), ([9], [9]), ([], []), ([], []), ([11, 12], [11, 12]), ([13], [13]), ([14], [14]), ([5, 10, 15], [5, 10, 15]), ([16], [16]), ([0, 17], [0, 17]), ([18, 18, 0, 1, 2, 3, 4, 5, 6, 7, 8, 9, 10, 11, 12, 13, 14, 15, 16, 17, 18], [0, 18])])
def marchlandlaw03_To.B5 : List Nat := [0, 0, 0, 6, 14, 30, 0, 0, 192, 448, 960, 0, 0, 6144, 14336, 30720, 65534, 131070, 262143, 524287]
theorem marchlandlaw03_To.tab5 : rtab .any (opsOf Try.f14 5) = marchlandlaw03_To.T5 := by kernel_rfl
theorem marchlandlaw03_To.bits5 : waitsOk marchlandlaw03_To.T5.2 marchlandlaw03_To.B5 = true := by kernel_rfl
set_option maxHeartbeats 8000000 in
set_option maxRecDepth 100000 in
theorem marchlandlaw03_To.calls (k : Nat) (A0 : Option Addr) (c0 : Nat) (l0 : List (S40)) (r : List (S50)) (w : World) (hr0 : Kd.C k40 w A0 l0.length l0) (hc0 : l0.length ≤ c0) (h : marchlandlaw03_To.f k l0 = some r) :
  Calls Try.prog 14 #[.slice A0 l0.length c0] w fun e w' => ∃ v0_ : Value, e = .returned (v0_) ∧ Kd.R k50 50 w' w.heap.size (fun _ => True) v0_ r ∧ Below w.heap.size w w' := by
 have hu50 := Try.underlying50
 have HR0 := Aside0.mk hr0
 have HC0 := Aside0.mk hc0
 clear hr0 hc0
 have HB := Aside0.mk (Below.refl w.heap.size w)
 have H : (marchlandlaw03_To.l0 k l0 ([] : List (S50)) 0) = some r := h
 clear h
 have H' := Aside0.mk H
 clear H
 go_enter Try.func14, Try.ntmps14
 go_wp2
 go_loopg [3, 4] k (fun kq v3 v4 w' => ∃ (x3_1 : List (S50)) (x4_1 : Int), v4 = .int .i64 x4_1 ∧ Aside0 (marchlandlaw03_To.l0 kq l0 x3_1 x4_1 = some r) ∧ Aside0 (kq ≤ k) ∧ Aside0 (Kd.R k50 50 w' w.heap.size (fun _ => True) v3 x3_1) ∧ Aside0 (Below w.heap.size w w'))
 case atStart => exact ⟨(([] : List (S50))), (0), (by first | rfl | (simp; done) | (simp [*]; done)), H', ⟨Nat.le_refl _⟩, ⟨by first | exact Kd.R_nil _ _ _ _ _ | exact Kd.N_nil _ _ _ _ _ | exact Kd.V_nil _ _ _ _ _ | exact Kd.Q_nil _ _ _ _ _ | exact Kd.S_nil _ _ _ _ _⟩, ⟨by repeat (first | (with_reducible first | exact HB.out | apply below_alloc | apply pw_below_drewN | apply below_drew1) | exact HB.out)⟩⟩
 case round =>
  clear H'
  (try clear c1)
  obtain ⟨x3_1, x4_1, rfl, HA, HK1, HO_3, HB⟩ := hrel
  cases gk with
  | zero => exact absurd HA.out (by simp [marchlandlaw03_To.l0])
  | succ k1 =>
   have H := HA.out
   clear HA
   simp only [marchlandlaw03_To.l0] at H
   by_cases c2 : x4_1 < (l0.length : Int)
   ·rw [if_pos c2] at H
    have c2b0 : decide (x4_1 < (l0.length : Int)) = true := decide_eq_true c2
    clear c2
    by_cases c3 : 0 ≤ x4_1
    ·rw [if_pos c3] at H
     have c3b0 : decide (0 ≤ x4_1) = true := decide_eq_true c3
     clear c3
     by_cases c4 : x3_1.length < 5864062014805
     ·rw [if_pos c4] at H
      have LMc4 := Aside0.mk c4
      clear c4
      obtain ⟨y104, hy104⟩ : ∃ y_ : List (S50), y_ = (x3_1 ++ [(⟨(rd_T40 l0 x4_1).f0, (rd_T40 l0 x4_1).f1, (rd_T40 l0 x4_1).f2⟩ : S50)]) := ⟨_, rfl⟩
      replace H : (marchlandlaw03_To.l0 k1 l0 y104 (wrap64 (x4_1 + 1))) = some r := by first | (rw [hy104]; with_reducible exact H) | (have H2_ := (Option.bind_some _ _).symm.trans H; rw [hy104]; with_reducible exact H2_) | (have H2_ := (Option.bind_some _ _).symm.trans H; with_reducible exact H2_) | with_reducible exact H | (rw [hy104]; exact H) | exact H
      have Ny104 := Aside0.mk hy104
      clear hy104
      have H' := Aside0.mk H
      clear H
      try go_wp2
      have n0_ := Aside0.mk (Kd.R_drew HO_3.out)
      have n1_ := Aside0.mk (below_drew1 HB.out)
      clear HO_3
      clear HB
      have HO_3 := n0_
      have HB := n1_
      clear n0_ n1_
      have p101 : 0 ≤ (x4_1 : Int) := of_decide_eq_true (by assumption)
      have q101 : x4_1 < (l0.length : Int) := of_decide_eq_true (by assumption)
      obtain ⟨ad101, e101, hx101_0, hx101_1, hx101_2⟩ := at_T40 HR0.out x4_1 p101 q101
      have hw101_2 := hx101_2
      have hw101_1 := hx101_1
      have hw101_0 := hx101_0
      cases e101
      replace hx101_0 := (HB.out.cell (World.block_lt_of_cell? w _ hx101_0)).trans hx101_0
      replace hx101_1 := (HB.out.cell (World.block_lt_of_cell? w _ hx101_1)).trans hx101_1
      replace hx101_2 := (HB.out.cell (World.block_lt_of_cell? w _ hx101_2)).trans hx101_2
      replace p101 := eq_true p101
      replace q101 := eq_true q101
      have p102 : 0 ≤ (x4_1 : Int) := of_decide_eq_true (by assumption)
      have q102 : x4_1 < (l0.length : Int) := of_decide_eq_true (by assumption)
      obtain ⟨ad102, e102, hx102_0, hx102_1, hx102_2⟩ := at_T40 HR0.out x4_1 p102 q102
      have hw102_2 := hx102_2
      have hw102_1 := hx102_1
      have hw102_0 := hx102_0
      obtain rfl : ad101 = ad102 := (by injection e102)
      replace hx102_0 := (HB.out.cell (World.block_lt_of_cell? w _ hx102_0)).trans hx102_0
      replace hx102_1 := (HB.out.cell (World.block_lt_of_cell? w _ hx102_1)).trans hx102_1
      replace hx102_2 := (HB.out.cell (World.block_lt_of_cell? w _ hx102_2)).trans hx102_2
      replace p102 := eq_true p102
      replace q102 := eq_true q102
      have p103 : 0 ≤ (x4_1 : Int) := of_decide_eq_true (by assumption)
      have q103 : x4_1 < (l0.length : Int) := of_decide_eq_true (by assumption)
      obtain ⟨ad103, e103, hx103_0, hx103_1, hx103_2⟩ := at_T40 HR0.out x4_1 p103 q103
      have hw103_2 := hx103_2
      have hw103_1 := hx103_1
      have hw103_0 := hx103_0
      obtain rfl : ad101 = ad103 := (by injection e103)
      replace hx103_0 := (HB.out.cell (World.block_lt_of_cell? w _ hx103_0)).trans hx103_0
      replace hx103_1 := (HB.out.cell (World.block_lt_of_cell? w _ hx103_1)).trans hx103_1
      replace hx103_2 := (HB.out.cell (World.block_lt_of_cell? w _ hx103_2)).trans hx103_2
      replace p103 := eq_true p103
      replace q103 := eq_true q103
      refine start_ (n := 20) (S := fun w' => w'.cell? (ad101.add ((x4_1).toNat * 3)) = some (.int .i64 ((rd_T40 l0 x4_1).f0)) ∧ w'.cell? ⟨(ad101.add ((x4_1).toNat * 3)).block, (ad101.add ((x4_1).toNat * 3)).off + 1, none⟩ = some (.int .u64 ((rd_T40 l0 x4_1).f1)) ∧ w'.cell? ⟨(ad101.add ((x4_1).toNat * 3)).block, (ad101.add ((x4_1).toNat * 3)).off + 2, none⟩ = some (.int .i64 ((rd_T40 l0 x4_1).f2)) ∧ w'.cell? (ad101.add ((x4_1).toNat * 3)) = some (.int .i64 ((rd_T40 l0 x4_1).f0)) ∧ w'.cell? ⟨(ad101.add ((x4_1).toNat * 3)).block, (ad101.add ((x4_1).toNat * 3)).off + 1, none⟩ = some (.int .u64 ((rd_T40 l0 x4_1).f1)) ∧ w'.cell? ⟨(ad101.add ((x4_1).toNat * 3)).block, (ad101.add ((x4_1).toNat * 3)).off + 2, none⟩ = some (.int .i64 ((rd_T40 l0 x4_1).f2)) ∧ w'.cell? (ad101.add ((x4_1).toNat * 3)) = some (.int .i64 ((rd_T40 l0 x4_1).f0)) ∧ w'.cell? ⟨(ad101.add ((x4_1).toNat * 3)).block, (ad101.add ((x4_1).toNat * 3)).off + 1, none⟩ = some (.int .u64 ((rd_T40 l0 x4_1).f1)) ∧ w'.cell? ⟨(ad101.add ((x4_1).toNat * 3)).block, (ad101.add ((x4_1).toNat * 3)).off + 2, none⟩ = some (.int .i64 ((rd_T40 l0 x4_1).f2))) (ds := []) (mk_ 0 20) (by kernel_rfl) rfl rfl ⟨((HB.out.cell (World.block_lt_of_cell? w _ hw101_0)).trans hw101_0), ((HB.out.cell (World.block_lt_of_cell? w _ hw101_1)).trans hw101_1), ((HB.out.cell (World.block_lt_of_cell? w _ hw101_2)).trans hw101_2), ((HB.out.cell (World.block_lt_of_cell? w _ hw102_0)).trans hw102_0), ((HB.out.cell (World.block_lt_of_cell? w _ hw102_1)).trans hw102_1), ((HB.out.cell (World.block_lt_of_cell? w _ hw102_2)).trans hw102_2), ((HB.out.cell (World.block_lt_of_cell? w _ hw103_0)).trans hw103_0), ((HB.out.cell (World.block_lt_of_cell? w _ hw103_1)).trans hw103_1), ((HB.out.cell (World.block_lt_of_cell? w _ hw103_2)).trans hw103_2)⟩ (fun hHeld => ?_); refine with_tabW marchlandlaw03_To.tab5 marchlandlaw03_To.bits5 (fun HT_ HW_ => ?_)
      generalize wr.drew = w5 at HO_3 HB hx101_0 hx101_1 hx101_2 hx102_0 hx102_1 hx102_2 hx103_0 hx103_1 hx103_2 hHeld ⊢
      refine pv_ 0 11 (mk_ 1 19) HT_ ?_
      refine pv_ 1 12 (mk_ 2 18) HT_ ?_
      refine pv_ 2 13 (mk_ 3 17) HT_ ?_
      refine pv_ 3 14 (mk_ 4 16) HT_ ?_
      refine pv_ 4 15 (mk_ 5 15) HT_ ?_
      refine pv_ 6 17 #[true, true, true, true, true, false, true, false, false, false, false, false, false, false, false, false, false, false, false, false] HT_ ?_
      refine pv_ 7 18 #[true, true, true, true, true, false, true, true, false, false, false, false, false, false, false, false, false, false, false, false] HT_ ?_
      refine pv_ 8 19 #[true, true, true, true, true, false, true, true, true, false, false, false, false, false, false, false, false, false, false, false] HT_ ?_
      refine pv_ 9 20 #[true, true, true, true, true, false, true, true, true, true, false, false, false, false, false, false, false, false, false, false] HT_ ?_
      refine pv_ 11 22 #[true, true, true, true, true, false, true, true, true, true, false, true, false, false, false, false, false, false, false, false] HT_ ?_
      refine pv_ 12 23 #[true, true, true, true, true, false, true, true, true, true, false, true, true, false, false, false, false, false, false, false] HT_ ?_
      refine pv_ 13 24 #[true, true, true, true, true, false, true, true, true, true, false, true, true, true, false, false, false, false, false, false] HT_ ?_
      refine pv_ 14 25 #[true, true, true, true, true, false, true, true, true, true, false, true, true, true, true, false, false, false, false, false] HT_ ?_
      refine tv_ 5 16 #[true, true, true, true, true, true, true, true, true, true, false, true, true, true, true, false, false, false, false, false] HT_ HW_ hHeld (hy := by rintro w' ⟨s0, s1, s2, s3, s4, s5, s6, s7, s8⟩; go_simp; with_reducible rfl) (h := ?_)
      refine tv_ 10 21 (mk_ 15 5) HT_ HW_ hHeld (hy := by rintro w' ⟨s0, s1, s2, s3, s4, s5, s6, s7, s8⟩; go_simp; with_reducible rfl) (h := ?_)
      refine tv_ 15 26 (mk_ 16 4) HT_ HW_ hHeld (hy := by rintro w' ⟨s0, s1, s2, s3, s4, s5, s6, s7, s8⟩; go_simp; with_reducible rfl) (h := ?_)
      refine pv_ 16 27 (mk_ 17 3) HT_ ?_
      refine one_ (i := 17) (N := some 28) (mk_ 18 2) rfl rfl (one_of HT_.out (by kernel_rfl)) (by decide) (fun K hK => ?_)
      refine value_ (w1 := ?_) (v := ?_) (by rfl) rfl ?_ ?_
      rotate_left 2
      ·go_simp
       constructor
       ·rfl
       ·rfl
      refine hK.out _ _ ⟨(World.cell?_alloc_lt _ _ _ (World.block_lt_of_cell? _ _ (((HB.out.cell (World.block_lt_of_cell? w _ hw101_0)).trans hw101_0)))).trans (((HB.out.cell (World.block_lt_of_cell? w _ hw101_0)).trans hw101_0)), (World.cell?_alloc_lt _ _ _ (World.block_lt_of_cell? _ _ (((HB.out.cell (World.block_lt_of_cell? w _ hw101_1)).trans hw101_1)))).trans (((HB.out.cell (World.block_lt_of_cell? w _ hw101_1)).trans hw101_1)), (World.cell?_alloc_lt _ _ _ (World.block_lt_of_cell? _ _ (((HB.out.cell (World.block_lt_of_cell? w _ hw101_2)).trans hw101_2)))).trans (((HB.out.cell (World.block_lt_of_cell? w _ hw101_2)).trans hw101_2)), (World.cell?_alloc_lt _ _ _ (World.block_lt_of_cell? _ _ (((HB.out.cell (World.block_lt_of_cell? w _ hw102_0)).trans hw102_0)))).trans (((HB.out.cell (World.block_lt_of_cell? w _ hw102_0)).trans hw102_0)), (World.cell?_alloc_lt _ _ _ (World.block_lt_of_cell? _ _ (((HB.out.cell (World.block_lt_of_cell? w _ hw102_1)).trans hw102_1)))).trans (((HB.out.cell (World.block_lt_of_cell? w _ hw102_1)).trans hw102_1)), (World.cell?_alloc_lt _ _ _ (World.block_lt_of_cell? _ _ (((HB.out.cell (World.block_lt_of_cell? w _ hw102_2)).trans hw102_2)))).trans (((HB.out.cell (World.block_lt_of_cell? w _ hw102_2)).trans hw102_2)), (World.cell?_alloc_lt _ _ _ (World.block_lt_of_cell? _ _ (((HB.out.cell (World.block_lt_of_cell? w _ hw103_0)).trans hw103_0)))).trans (((HB.out.cell (World.block_lt_of_cell? w _ hw103_0)).trans hw103_0)), (World.cell?_alloc_lt _ _ _ (World.block_lt_of_cell? _ _ (((HB.out.cell (World.block_lt_of_cell? w _ hw103_1)).trans hw103_1)))).trans (((HB.out.cell (World.block_lt_of_cell? w _ hw103_1)).trans hw103_1)), (World.cell?_alloc_lt _ _ _ (World.block_lt_of_cell? _ _ (((HB.out.cell (World.block_lt_of_cell? w _ hw103_2)).trans hw103_2)))).trans (((HB.out.cell (World.block_lt_of_cell? w _ hw103_2)).trans hw103_2))⟩ (fun hHeld => ?_)
      clear hK K
      refine norm_ (a' := ?_) ?_ ?_
      rotate_left
      ·show Act.put _ (some 28) _ = _
       simp only [Act.put, List.setIfInBounds_toArray, List.set_cons_zero, List.set_cons_succ, i64_w, i32_w]
       rfl
      refine one_ (i := 18) (N := some 29) (mk_ 19 1) rfl rfl (one_of HT_.out (by kernel_rfl)) (by decide) (fun K hK => ?_)
      refine Kd.R_append_step k50 (w0 := w) w.heap.size (by rfl) (.tmp 11) (.tmp 28) 23 50 (.agg #[(.int .i64 0), (.int .u64 0), (.int .i64 0)]) 24 rfl Try.underlying23 info50 rfl (by decide) (by omega) u3 x3_1 (⟨(rd_T40 l0 x4_1).f0, (rd_T40 l0 x4_1).f1, (rd_T40 l0 x4_1).f2⟩ : S50) [.int .i64 ((rd_T40 l0 x4_1).f0), .int .u64 ((rd_T40 l0 x4_1).f1), .int .i64 ((rd_T40 l0 x4_1).f2)] (fun _ => True) (fun _ => False) rfl rfl ?aP (fun _ hk => hk.elim) ?aF ?aO ?aB ?aS ?aL ?_
      (case aP => exact k50_mkM _ _ _ (⟨(rd_T40 l0 x4_1).f0, (rd_T40 l0 x4_1).f1, (rd_T40 l0 x4_1).f2⟩ : S50))
      (case aB => exact (bn HB))
      (case aF => exact (fun _ _ => trivial))
      (case aO => exact (rn HO_3))
      (case aS => exact (below_size (bn HB)))
      (case aL => have := LMc4.out; omega)
      intro v105 w6 ho hb hg hat
      rw [← Ny104.out] at ho
      have n0_ := Aside0.mk (hb)
      have n1_ := Aside0.mk (ho)
      clear HB
      clear HO_3
      have HB := n0_
      have HO106 := n1_
      clear n0_ n1_
      clear ho hb hg hat
      refine hK.out _ _ ⟨((HB.out.cell (World.block_lt_of_cell? w _ hw101_0)).trans hw101_0), ((HB.out.cell (World.block_lt_of_cell? w _ hw101_1)).trans hw101_1), ((HB.out.cell (World.block_lt_of_cell? w _ hw101_2)).trans hw101_2), ((HB.out.cell (World.block_lt_of_cell? w _ hw102_0)).trans hw102_0), ((HB.out.cell (World.block_lt_of_cell? w _ hw102_1)).trans hw102_1), ((HB.out.cell (World.block_lt_of_cell? w _ hw102_2)).trans hw102_2), ((HB.out.cell (World.block_lt_of_cell? w _ hw103_0)).trans hw103_0), ((HB.out.cell (World.block_lt_of_cell? w _ hw103_1)).trans hw103_1), ((HB.out.cell (World.block_lt_of_cell? w _ hw103_2)).trans hw103_2)⟩ (fun hHeld => ?_)
      clear hK K
      refine norm_ (a' := ?_) ?_ ?_
      rotate_left
      ·show Act.put _ (some 29) _ = _
       simp only [Act.put, List.setIfInBounds_toArray, List.set_cons_zero, List.set_cons_succ, i64_w, i32_w]
       rfl
      refine pv_ 19 3 (mk_ 20 0) HT_ ?_
      refine done_ (done_of HT_.out (by kernel_rfl)) ?_
      try go_wp2
      go_roundg k1
      case measure => have := HK1.out; omega
      case rel => exact ⟨(y104), (wrap64 (x4_1 + 1)), (by first | rfl | (simp; done) | (simp [*]; done)), H', ⟨by have := HK1.out; omega⟩, ⟨by (with_reducible repeat (first | apply Kd.R_alloc | apply Kd.R_drewN | apply Kd.R_drew)); exact HO106.out⟩, ⟨by repeat (first | (with_reducible first | exact HB.out | apply below_alloc | apply pw_below_drewN | apply below_drew1) | exact HB.out)⟩⟩
     ·rw [if_neg c4] at H
      exact absurd H (by simp)
    ·rw [if_neg c3] at H
     exact absurd H (by simp)
   ·rw [if_neg c2] at H
    have c2b0 : decide (x4_1 < (l0.length : Int)) = false := decide_eq_false c2
    clear c2
    obtain rfl := Option.some.inj H
    go_wp2
    go_ret
    exact ⟨_, by first | rfl | (simp [errW_none, errW_some] <;> rfl) | (simp [*, errW_none, errW_some] <;> rfl), by (with_reducible repeat (first | apply Kd.R_alloc | apply Kd.R_drewN | apply Kd.R_drew)); exact HO_3.out, by repeat (first | (with_reducible first | exact HB.out | apply below_alloc | apply pw_below_drewN | apply below_drew1) | exact HB.out)⟩
end Go.Proofs.Ytgeldmhgbnamcaa.P
end
section
namespace Go.Proofs.Ytgeldmhgbnamcaa.P
open Go.RowKit Go.Proofs.YtgeldmhgbnamcaaW.PrintWords Go.Proofs.YtgeldmhgbnamcaaW.PrintLast Go.Proofs.YtgeldmhgbnamcaaW.PrintMore
set_option linter.unusedVariables false
set_option linter.unusedSimpArgs false
def slices_GrowNil.f (a1 : Int) : Option (List S50) := if 0 ≤ a1 then (if a1 < 5864062014805 then some [] else none) else none
theorem slices_GrowNil.zero (W : World) (base : Nat) : Kd.M k50 W base (fun _ => False) z50 (((.agg #[(.int .i64 0), (.int .u64 0), (.int .i64 0)]) : Value).cells.toList) := by
 show Kd.M k50 W base (fun _ => False) z50 [.int .i64 0, .int .u64 0, .int .i64 0]
 exact k50_mkM _ _ _ z50
set_option maxHeartbeats 400000 in
theorem slices_GrowNil.calls (a1 : Int) (r : List S50) (w : World) (h : slices_GrowNil.f a1 = some r) :
  Calls Try.prog 78 #[.slice none 0 0, .int .i64 a1] w fun e w' => ∃ v0_ : Value, e = .returned v0_ ∧ Kd.R k50 50 w' w.heap.size (fun _ => True) v0_ r ∧ Below w.heap.size w w' := by
 unfold slices_GrowNil.f at h
 by_cases h0 : 0 ≤ a1
 ·rw [if_pos h0] at h
  by_cases hlim : a1 < 5864062014805
  ·rw [if_pos hlim] at h
   obtain rfl := Option.some.inj h
   clear h
   by_cases hz : a1 = 0
   ·subst hz
    go_enter Try.func78, Try.ntmps78
    go_wp2
    go_ret
    exact ⟨_, rfl, Kd.R_nil _ _ _ _ _, Below.refl _ _⟩
   ·have hpos : 0 < a1 := by omega
    clear hz
    have HP := Aside0.mk hpos
    have HL := Aside0.mk hlim
    go_enter Try.func78, Try.ntmps78
    go_wp2_with (first | ((with_reducible refine gate_builtin (b := .append) (xs := #[.tmp 20, .tmp 21]) rfl ?_); at_builtin; refine Kd.R_append_zeros k50 (w0 := w) w.heap.size rfl (.tmp 20) (.tmp 21) 25 3 50 (.agg #[(.int .i64 0), (.int .u64 0), (.int .i64 0)]) 24 rfl Try.underlying25 Try.underlying3 info50 rfl (by decide) (by omega) (.slice none 0 0) [] z50 a1 (fun _ => True) rfl rfl (slices_GrowNil.zero _ _) (fun _ _ => trivial) (Kd.R_nil _ _ _ _ _) (by have := HP.out; omega) (Below.refl _ _) (Nat.le_refl _) (by have := HL.out; have := HP.out; simp only [List.length_nil]; omega) ?_; intro v1 w1 ho hb hg hat; obtain ⟨A1, c1, e1⟩ := Kd.R_slice ho; subst e1; have HO := Aside0.mk ho; have HB := Aside0.mk hb; clear ho hb hg hat))
    go_ret
    exact ⟨_, rfl, by have := Kd.R_take HO.out (m := 0) (Nat.zero_le _); rwa [List.take_zero] at this, HB.out⟩
  ·rw [if_neg hlim] at h
   cases h
 ·rw [if_neg h0] at h
  cases h
end Go.Proofs.Ytgeldmhgbnamcaa.P
end
section
-- Printed by the session's own turn of the print (wip/tools/print2.sh): some callees are proved by hand.
namespace Go.Proofs.Ytgeldmhgbnamcaa.P
open Go.RowKit Go.Proofs.YtgeldmhgbnamcaaW.PrintWords Go.Proofs.YtgeldmhgbnamcaaW.PrintLast Go.Proofs.YtgeldmhgbnamcaaW.PrintMore
attribute [local go_sem] max2_int min2_int max_two min_two max_three min_three max_four min_four   -- for this text's walks alone
set_option linter.unusedVariables false
set_option linter.unusedSimpArgs false
/-! ### batch_Change_57: function 57 -/
mutual
def batch_Change_57.l0 : Nat → List (List (S50)) → Int → List (List (S50)) → Int → Int → Option ((List (S50)))
 | 0, _, _, _, _, _ => none
 | k + 1, x0, x3, x9, x10, x11 => if x11 < x10 then (if 0 ≤ x11 then (if x11 < (x9.length : Int) then (if (wrap64 (x3 + ((rd_L4 x9 x11).length : Int))) < 0 then (none) else (batch_Change_57.l0 k x0 (wrap64 (x3 + ((rd_L4 x9 x11).length : Int))) x9 x10 (wrap64 (x11 + 1)))) else (none)) else (none)) else ((slices_GrowNil.f x3).bind fun t337 => (batch_Change_57.l1 k t337 x0 (x0.length : Int) 0))
def batch_Change_57.l1 : Nat → List (S50) → List (List (S50)) → Int → Int → Option ((List (S50)))
 | 0, _, _, _, _ => none
 | k + 1, x6, x25, x26, x27 => if x27 < x26 then (if 0 ≤ x27 then (if x27 < (x25.length : Int) then (if x6.length + (rd_L4 x25 x27).length < 5864062014805 then (batch_Change_57.l1 k (x6 ++ (rd_L4 x25 x27)) x25 x26 (wrap64 (x27 + 1))) else (none)) else (none)) else (none)) else (some x6)
end
def batch_Change_57.f (k : Nat) (l0 : List (List (S50))) : Option ((List (S50))) := batch_Change_57.l0 k l0 0 l0 (l0.length : Int) 0
theorem batch_Change_57.mono_l : ∀ k, (∀ y0 y1 y2 y3 y4, LeO (batch_Change_57.l0 k y0 y1 y2 y3 y4) (batch_Change_57.l0 (k + 1) y0 y1 y2 y3 y4)) ∧ (∀ y0 y1 y2 y3, LeO (batch_Change_57.l1 k y0 y1 y2 y3) (batch_Change_57.l1 (k + 1) y0 y1 y2 y3))
 | 0 => ⟨fun _ _ _ _ _ r h => by simp [batch_Change_57.l0] at h, fun _ _ _ _ r h => by simp [batch_Change_57.l1] at h⟩
 | k + 1 => by
  obtain ⟨ih0, ih1⟩ := batch_Change_57.mono_l k
  refine ⟨?_, ?_⟩
  ·intro y0 y1 y2 y3 y4
   unfold batch_Change_57.l0
   repeat' first
   | (with_reducible exact ih0 _ _ _ _ _)
   | (with_reducible exact ih1 _ _ _ _)
   | (with_reducible exact LeO.refl _)
   | (with_reducible exact LeO.none _)
   | (with_reducible refine LeO.ite ?_ ?_)
   | (with_reducible refine LeO.bind ?_ (fun _ => ?_))
   | exact ih0 _ _ _ _ _
   | exact ih1 _ _ _ _
   | exact LeO.none _
   | refine LeO.ite ?_ ?_
   | refine LeO.bind ?_ (fun _ => ?_)
  ·intro y0 y1 y2 y3
   unfold batch_Change_57.l1
   repeat' first
   | (with_reducible exact ih0 _ _ _ _ _)
   | (with_reducible exact ih1 _ _ _ _)
   | (with_reducible exact LeO.refl _)
   | (with_reducible exact LeO.none _)
   | (with_reducible refine LeO.ite ?_ ?_)
   | (with_reducible refine LeO.bind ?_ (fun _ => ?_))
   | exact ih0 _ _ _ _ _
   | exact ih1 _ _ _ _
   | exact LeO.none _
   | refine LeO.ite ?_ ?_
   | refine LeO.bind ?_ (fun _ => ?_)
theorem batch_Change_57.mono : ∀ a0 k, LeO (batch_Change_57.f k a0) (batch_Change_57.f (k + 1) a0) := by
 intro a0 k
 obtain ⟨ih0, ih1⟩ := batch_Change_57.mono_l k
 unfold batch_Change_57.f
 repeat' first
   | (with_reducible exact ih0 _ _ _ _ _)
   | (with_reducible exact ih1 _ _ _ _)
   | (with_reducible exact LeO.refl _)
   | (with_reducible exact LeO.none _)
   | (with_reducible refine LeO.ite ?_ ?_)
   | (with_reducible refine LeO.bind ?_ (fun _ => ?_))
   | exact ih0 _ _ _ _ _
   | exact ih1 _ _ _ _
   | exact LeO.none _
   | refine LeO.ite ?_ ?_
   | refine LeO.bind ?_ (fun _ => ?_)
set_option maxHeartbeats 8000000 in
set_option maxRecDepth 100000 in
theorem batch_Change_57.calls (k : Nat) (A0 : Option Addr) (c0 : Nat) (l0 : List (List (S50))) (r : List (S50)) (w : World) (hr0 : Kd.C (Kd.slice 50 k50) w A0 l0.length l0) (hc0 : l0.length ≤ c0) (h : batch_Change_57.f k l0 = some r) :
  Calls Try.prog 57 #[.slice A0 l0.length c0] w fun e w' => ∃ v0_ : Value, e = .returned (v0_) ∧ Kd.R k50 50 w' w.heap.size (fun _ => True) v0_ r ∧ Below w.heap.size w w' := by
 have HR0 := Aside0.mk hr0
 have HC0 := Aside0.mk hc0
 clear hr0 hc0
 have HB := Aside0.mk (Below.refl w.heap.size w)
 have H : (batch_Change_57.l0 k l0 0 l0 (l0.length : Int) 0) = some r := h
 clear h
 have H' := Aside0.mk H
 clear H
 go_enter Try.func57, Try.ntmps57
 go_wp2
 go_loopg [3, 11] k (fun kq v3 v11 w' => ∃ (x3_1 : Int) (x11_1 : Int), v3 = .int .i64 x3_1 ∧ v11 = .int .i64 x11_1 ∧ Aside0 (batch_Change_57.l0 kq l0 x3_1 l0 (l0.length : Int) x11_1 = some r) ∧ Aside0 (kq ≤ k) ∧ Aside0 (Below w.heap.size w w'))
 case atStart => exact ⟨(0), (0), (by first | rfl | (simp; done) | (simp [*]; done)), (by first | rfl | (simp; done) | (simp [*]; done)), H', ⟨Nat.le_refl _⟩, ⟨by repeat (first | (with_reducible first | exact HB.out | apply below_alloc | apply pw_below_drewN | apply below_drew1) | exact HB.out)⟩⟩
 case round =>
  clear H'
  obtain ⟨x3_1, x11_1, rfl, rfl, HA, HK1, HB⟩ := hrel
  cases gk with
  | zero => exact absurd HA.out (by simp [batch_Change_57.l0])
  | succ k1 =>
   have H := HA.out
   clear HA
   simp only [batch_Change_57.l0] at H
   by_cases c2 : x11_1 < (l0.length : Int)
   ·rw [if_pos c2] at H
    have c2b0 : decide (x11_1 < (l0.length : Int)) = true := decide_eq_true c2
    clear c2
    by_cases c3 : 0 ≤ x11_1
    ·rw [if_pos c3] at H
     have c3b0 : decide (0 ≤ x11_1) = true := decide_eq_true c3
     clear c3
     by_cases c4 : x11_1 < (l0.length : Int)
     ·rw [if_pos c4] at H
      have c4b0 : decide (x11_1 < (l0.length : Int)) = true := decide_eq_true c4
      clear c4
      by_cases c5 : (wrap64 (x3_1 + ((rd_L4 l0 x11_1).length : Int))) < 0
      ·rw [if_pos c5] at H
       exact absurd H (by simp)
      ·rw [if_neg c5] at H
       have c5b0 : decide ((wrap64 (x3_1 + ((rd_L4 l0 x11_1).length : Int))) < 0) = false := decide_eq_false c5
       clear c5
       have H' := Aside0.mk H
       clear H
       have p336 : 0 ≤ (x11_1 : Int) := of_decide_eq_true (by assumption)
       have q336 : x11_1 < (l0.length : Int) := of_decide_eq_true (by assumption)
       obtain ⟨ad336, A336_0, c336_0, e336, hx336_0, hl336_0, hi336_0⟩ := at_L4 HR0.out x11_1 p336 q336
       cases e336
       replace hx336_0 := (HB.out.cell (World.block_lt_of_cell? w _ hx336_0)).trans hx336_0
       have HR336_0 := Aside0.mk hi336_0
       have HC336_0 := Aside0.mk hl336_0
       clear hi336_0 hl336_0
       replace p336 := eq_true p336
       replace q336 := eq_true q336
       go_wp2
       go_roundg k1
       case measure => have := HK1.out; omega
       case rel => exact ⟨(wrap64 (x3_1 + ((rd_L4 l0 x11_1).length : Int))), (wrap64 (x11_1 + 1)), (by first | rfl | (simp; done) | (simp [*]; done)), (by first | rfl | (simp; done) | (simp [*]; done)), H', ⟨by have := HK1.out; omega⟩, ⟨by repeat (first | (with_reducible first | exact HB.out | apply below_alloc | apply pw_below_drewN | apply below_drew1) | exact HB.out)⟩⟩
     ·rw [if_neg c4] at H
      exact absurd H (by simp)
    ·rw [if_neg c3] at H
     exact absurd H (by simp)
   ·rw [if_neg c2] at H
    have c2b0 : decide (x11_1 < (l0.length : Int)) = false := decide_eq_false c2
    clear c2
    replace H := Option.bind_eq_some_iff.mp H
    obtain ⟨t337, A60, H⟩ := H
    replace H : (batch_Change_57.l1 k1 t337 l0 (l0.length : Int) 0) = some r := H
    have A6 := Aside0.mk A60
    clear A60
    have H' := Aside0.mk H
    clear H
    go_wp2_with (first | ((with_reducible refine gate_callee (f := 78) rfl ?_); refine gl (some 24) Try.func78 #[.slice none 0 0, .int .i64 x3_1] ?_; (with_reducible refine (slices_GrowNil.calls  x3_1 t337 _ A6.out).mono ?_); rintro e w7 ⟨v338, rfl, ho0, hb⟩; refine ⟨_, rfl, ?_⟩; have n0_ := Aside0.mk (Kd.R_lower ho0 (below_size (bn HB))); have HO339 := n0_; replace HB := bb HB hb; clear n0_; (try clear hb); (try clear ho0)))
    go_loopg [6, 27] k1 (fun kq v6 v27 w' => ∃ (x6_2 : List (S50)) (x27_2 : Int), v27 = .int .i64 x27_2 ∧ Aside0 (batch_Change_57.l1 kq x6_2 l0 (l0.length : Int) x27_2 = some r) ∧ Aside0 (kq ≤ k1) ∧ Aside0 (Kd.R k50 50 w' w.heap.size (fun _ => True) v6 x6_2) ∧ Aside0 (Below w.heap.size w w'))
    case atStart => exact ⟨(t337), (0), (by first | rfl | (simp; done) | (simp [*]; done)), H', ⟨Nat.le_refl _⟩, ⟨by (with_reducible repeat (first | apply Kd.R_alloc | apply Kd.R_drewN | apply Kd.R_drew)); exact HO339.out⟩, ⟨by repeat (first | (with_reducible first | exact HB.out | apply below_alloc | apply pw_below_drewN | apply below_drew1) | exact HB.out)⟩⟩
    case round =>
     clear H'
     (try clear c2); (try clear c2b0); (try clear p2); (try clear c3); (try clear c3b0); (try clear p3); (try clear q3); (try clear hx3); (try clear c4); (try clear c4b0); (try clear c5); (try clear c5b0); (try clear p6); (try clear c7); (try clear hx336_0); (try clear p336); (try clear q336)
     obtain ⟨x6_2, x27_2, rfl, HA, HK2, HO_6, HB⟩ := hrel
     cases gk with
     | zero => exact absurd HA.out (by simp [batch_Change_57.l1])
     | succ k2 =>
      have H := HA.out
      clear HA
      simp only [batch_Change_57.l1] at H
      by_cases c8 : x27_2 < (l0.length : Int)
      ·rw [if_pos c8] at H
       have c8b0 : decide (x27_2 < (l0.length : Int)) = true := decide_eq_true c8
       clear c8
       by_cases c9 : 0 ≤ x27_2
       ·rw [if_pos c9] at H
        have c9b0 : decide (0 ≤ x27_2) = true := decide_eq_true c9
        clear c9
        by_cases c10 : x27_2 < (l0.length : Int)
        ·rw [if_pos c10] at H
         have c10b0 : decide (x27_2 < (l0.length : Int)) = true := decide_eq_true c10
         clear c10
         by_cases c11 : x6_2.length + (rd_L4 l0 x27_2).length < 5864062014805
         ·rw [if_pos c11] at H
          have LMc11 := Aside0.mk c11
          clear c11
          obtain ⟨y341, hy341⟩ : ∃ y_ : List (S50), y_ = (x6_2 ++ (rd_L4 l0 x27_2)) := ⟨_, rfl⟩
          replace H : (batch_Change_57.l1 k2 y341 l0 (l0.length : Int) (wrap64 (x27_2 + 1))) = some r := by first | (rw [hy341]; with_reducible exact H) | (have H2_ := (Option.bind_some _ _).symm.trans H; rw [hy341]; with_reducible exact H2_) | (have H2_ := (Option.bind_some _ _).symm.trans H; with_reducible exact H2_) | with_reducible exact H | (rw [hy341]; exact H) | exact H
          have Ny341 := Aside0.mk hy341
          clear hy341
          have H' := Aside0.mk H
          clear H
          have p340 : 0 ≤ (x27_2 : Int) := of_decide_eq_true (by assumption)
          have q340 : x27_2 < (l0.length : Int) := of_decide_eq_true (by assumption)
          obtain ⟨ad340, A340_0, c340_0, e340, hx340_0, hl340_0, hi340_0⟩ := at_L4 HR0.out x27_2 p340 q340
          cases e340
          replace hx340_0 := (HB.out.cell (World.block_lt_of_cell? w _ hx340_0)).trans hx340_0
          have HR340_0 := Aside0.mk hi340_0
          have HC340_0 := Aside0.mk hl340_0
          clear hi340_0 hl340_0
          replace p340 := eq_true p340
          replace q340 := eq_true q340
          go_wp2_with (first | ((with_reducible refine gate_builtin (b := .append) (xs := #[.tmp 31, .tmp 32]) rfl ?_); at_builtin; refine Kd.R_append_rows k50 (w0 := w) w.heap.size rfl (.tmp 31) (.tmp 32) 25 50 (.agg #[(.int .i64 0), (.int .u64 0), (.int .i64 0)]) 24 rfl Try.underlying25 info50 rfl (by decide) (by omega) u6 x6_2 (rd_L4 l0 x27_2) _ _ _ (fun _ => True) (fun _ => False) rfl rfl ?aO ?aR (fun _ _ h => h) (fun _ h => h.elim) ?aF ?aB ?aS ?aL ?_; (case aR => repeat (first | exact (Kd.C_below HR340_0.out HB.out) | (with_reducible refine Kd.C_alloc ?_ _) | (with_reducible refine Kd.C_drewN ?_ _) | (with_reducible refine Kd.C_drew ?_))); (case aB => exact (bn HB)); (case aF => exact (fun _ _ => trivial)); (case aO => exact (rn HO_6)); (case aS => exact (below_size (bn HB))); (case aL => have := LMc11.out; omega); intro v342 w12 ho hb hg hat; rw [← Ny341.out] at ho; have n0_ := Aside0.mk (hb); have n1_ := Aside0.mk (ho); clear HB; clear HO_6; have HB := n0_; have HO343 := n1_; clear n0_ n1_; clear ho hb hg hat))
          go_roundg k2
          case measure => have := HK1.out; have := HK2.out; omega
          case rel => exact ⟨(y341), (wrap64 (x27_2 + 1)), (by first | rfl | (simp; done) | (simp [*]; done)), H', ⟨by have := HK1.out; have := HK2.out; omega⟩, ⟨by (with_reducible repeat (first | apply Kd.R_alloc | apply Kd.R_drewN | apply Kd.R_drew)); exact HO343.out⟩, ⟨by repeat (first | (with_reducible first | exact HB.out | apply below_alloc | apply pw_below_drewN | apply below_drew1) | exact HB.out)⟩⟩
         ·rw [if_neg c11] at H
          exact absurd H (by simp)
        ·rw [if_neg c10] at H
         exact absurd H (by simp)
       ·rw [if_neg c9] at H
        exact absurd H (by simp)
      ·rw [if_neg c8] at H
       have c8b0 : decide (x27_2 < (l0.length : Int)) = false := decide_eq_false c8
       clear c8
       obtain rfl := Option.some.inj H
       go_wp2
       go_ret
       exact ⟨_, by first | rfl | (simp [errW_none, errW_some] <;> rfl) | (simp [*, errW_none, errW_some] <;> rfl), by (with_reducible repeat (first | apply Kd.R_alloc | apply Kd.R_drewN | apply Kd.R_drew)); exact HO_6.out, by repeat (first | (with_reducible first | exact HB.out | apply below_alloc | apply pw_below_drewN | apply below_drew1) | exact HB.out)⟩
end Go.Proofs.Ytgeldmhgbnamcaa.P
end
section
-- Printed by the session's own turn of the print (wip/tools/print2.sh): some callees are proved by hand.
namespace Go.Proofs.Ytgeldmhgbnamcaa.P
open Go.RowKit Go.Proofs.YtgeldmhgbnamcaaW.PrintWords Go.Proofs.YtgeldmhgbnamcaaW.PrintLast Go.Proofs.YtgeldmhgbnamcaaW.PrintMore
attribute [local go_sem] max2_int min2_int max_two min_two max_three min_three max_four min_four   -- for this text's walks alone
set_option linter.unusedVariables false
set_option linter.unusedSimpArgs false
/-! ### batch_Merge: function 25 -/
def batch_Merge.f (k : Nat) (l0 : List (S50)) (l1 : List (S50)) : Option ((List (S50)) × Int) := (batch_Change_57.f k (([l0, l1] : List (List (S50))))).bind fun t347 => ((batch_summed.f k t347).bind fun bt350 => (some (bt350.1, bt350.2.1)))
theorem batch_Merge.mono : ∀ a0 a1 k, LeO (batch_Merge.f k a0 a1) (batch_Merge.f (k + 1) a0 a1) := by
 intro a0 a1 k
 unfold batch_Merge.f
 repeat' first
   | (with_reducible exact batch_Change_57.mono _ _)
   | (with_reducible exact batch_summed.mono _ _)
   | (with_reducible exact LeO.refl _)
   | (with_reducible exact LeO.none _)
   | (with_reducible refine LeO.ite ?_ ?_)
   | (with_reducible refine LeO.bind ?_ (fun _ => ?_))
   | exact batch_Change_57.mono _ _
   | exact batch_summed.mono _ _
   | exact LeO.none _
   | refine LeO.ite ?_ ?_
   | refine LeO.bind ?_ (fun _ => ?_)
set_option maxHeartbeats 8000000 in
set_option maxRecDepth 100000 in
theorem batch_Merge.calls (k : Nat) (P0_ : Nat → Prop) (A0 : Option Addr) (c0 : Nat) (l0 : List (S50)) (P1_ : Nat → Prop) (A1 : Option Addr) (c1 : Nat) (l1 : List (S50)) (r1 : List (S50)) (r2 : Int) (w : World) (hs0 : Kd.V k50 50 w w.heap.size (fun k_ => P0_ k_) (.slice A0 l0.length c0) l0) (hs1 : Kd.V k50 50 w w.heap.size (fun k_ => P1_ k_) (.slice A1 l1.length c1) l1) (h : batch_Merge.f k l0 l1 = some (r1, r2)) :
  Calls Try.prog 25 #[.slice A0 l0.length c0, .slice A1 l1.length c1] w fun e w' => ∃ v0_ : Value, e = .returned (.tuple #[v0_, .int .i64 r2]) ∧ Kd.R k50 50 w' w.heap.size (fun k_ => (w.heap.size ≤ k_)) v0_ r1 ∧ Below w.heap.size w w' := by
 have HO0 := Aside0.mk (show Kd.V k50 50 w w.heap.size (fun k_ => ((P0_ k_ ∨ P1_ k_) ∨ w.heap.size ≤ k_)) (.slice A0 l0.length c0) l0 from Kd.V_mono hs0 (fun k_ hk => .inl (.inl hk)))
 have HO1 := Aside0.mk (show Kd.V k50 50 w w.heap.size (fun k_ => ((P0_ k_ ∨ P1_ k_) ∨ w.heap.size ≤ k_)) (.slice A1 l1.length c1) l1 from Kd.V_mono hs1 (fun k_ hk => .inl (.inr hk)))
 have HB := Aside0.mk (Below.refl w.heap.size w)
 have H : ((batch_Change_57.f k (([l0, l1] : List (List (S50))))).bind fun t347 => ((batch_summed.f k t347).bind fun bt350 => (some (bt350.1, bt350.2.1)))) = some (r1, r2) := h
 clear h
 obtain ⟨y344, hy344⟩ : ∃ y_ : List (List (S50)), y_ = (([l0, l1] : List (List (S50)))) := ⟨_, rfl⟩
 replace H : ((batch_Change_57.f k y344).bind fun t347 => ((batch_summed.f k t347).bind fun bt350 => (some (bt350.1, bt350.2.1)))) = some (r1, r2) := by first | (rw [hy344]; with_reducible exact H) | (have H2_ := (Option.bind_some _ _).symm.trans H; rw [hy344]; with_reducible exact H2_) | (have H2_ := (Option.bind_some _ _).symm.trans H; with_reducible exact H2_) | with_reducible exact H | (rw [hy344]; exact H) | exact H
 have Ny344 := Aside0.mk hy344
 clear hy344
 replace H := Option.bind_eq_some_iff.mp H
 obtain ⟨t347, A30, H⟩ := H
 replace H : ((batch_summed.f k t347).bind fun bt350 => (some (bt350.1, bt350.2.1))) = some (r1, r2) := H
 have A3 := Aside0.mk A30
 clear A30
 replace H := Option.bind_eq_some_iff.mp H
 obtain ⟨⟨t350, t353, t354⟩, A40, H⟩ := H
 replace H : (some (t350, t353)) = some (r1, r2) := H
 have A4 := Aside0.mk A40
 clear A40
 simp only [Option.some.injEq, Prod.mk.injEq] at H
 obtain ⟨rfl, rfl⟩ := H
 go_enter Try.func25, Try.ntmps25
 go_wp2_with (first | ((with_reducible refine gate_dst (N := 8) rfl ?_); refine Kd.N_lit (Kd.slice 50 k50) _ 25 ?hg (N' := 8) ?hd (xs := ([l0, l1] : List (List (S50)))) (inner := [.slice A0 l0.length c0, .slice A1 l1.length c1]) (ok := (fun k_ => ((P0_ k_ ∨ P1_ k_) ∨ w.heap.size ≤ k_))) (okp := (fun k_ => ((P0_ k_ ∨ P1_ k_) ∨ w.heap.size ≤ k_))) ?hr ?hp (fun _ hk => hk) ((show ∀ k_, w.heap.size ≤ k_ → (fun k_ => ((P0_ k_ ∨ P1_ k_) ∨ w.heap.size ≤ k_)) k_ from fun k_ hk => (.inr (Nat.le_trans (below_size (bn HB)) hk))) _ (Nat.le_refl _)) (Below.refl _ _) (Nat.le_refl _) (by simp) ?_; (case hd => rfl); (case hg => rfl); (case hr => first | (go_simp; done) | (go_simp; rfl)); (case hp => exact (Reps.one (show Kd.FK (Kd.slice 50 k50) _ _ l0 [.slice A0 l0.length c0] from (Kd.FK_slice_mk (Kd.V_reads' (Kd.V_mono (ok' := (fun k_ => ((P0_ k_ ∨ P1_ k_) ∨ w.heap.size ≤ k_))) (HO0.out) (fun k_ hk => hk))).2.1 (Kd.V_F (Kd.V_mono (ok' := (fun k_ => ((P0_ k_ ∨ P1_ k_) ∨ w.heap.size ≤ k_))) (HO0.out) (fun k_ hk => hk))))) (Reps.one (show Kd.FK (Kd.slice 50 k50) _ _ l1 [.slice A1 l1.length c1] from (Kd.FK_slice_mk (Kd.V_reads' (Kd.V_mono (ok' := (fun k_ => ((P0_ k_ ∨ P1_ k_) ∨ w.heap.size ≤ k_))) (HO1.out) (fun k_ hk => hk))).2.1 (Kd.V_F (Kd.V_mono (ok' := (fun k_ => ((P0_ k_ ∨ P1_ k_) ∨ w.heap.size ≤ k_))) (HO1.out) (fun k_ hk => hk))))) (Reps.none _ _)))); intro v345 w5 ho6 hb hg_ hnew_; clear hg_ hnew_; (first | rw [← Ny344.out] at ho6 | (simp only [Int.reduceToNat] at ho6; rw [← Ny344.out] at ho6)); have n0_ := Aside0.mk (Kd.V_elder' (by (with_reducible repeat (first | apply Kd.V_alloc | apply Kd.V_drewN | apply Kd.V_drew)); exact HO0.out) (Kd.N_base ho6) hb); have n1_ := Aside0.mk (Kd.V_elder' (by (with_reducible repeat (first | apply Kd.V_alloc | apply Kd.V_drewN | apply Kd.V_drew)); exact HO1.out) (Kd.N_base ho6) hb); have n2_ := Aside0.mk (Kd.N_lower ho6 (below_size (bn HB))); clear HO0; clear HO1; have HO0 := n0_; have HO1 := n1_; have HO346 := n2_; replace HB := bb HB hb; clear n0_ n1_ n2_; clear hb ho6; obtain ⟨Ao7, co7, eo7⟩ := Kd.N_slice HO346.out; subst eo7) | ((with_reducible refine gate_callee (f := 57) rfl ?_); refine gl (some 9) Try.func57 #[.slice Ao7 y344.length co7] ?_; (with_reducible refine (batch_Change_57.calls k _ _ y344 t347 _ ?side1 ?side2 A3.out).mono ?_); (case side1 => repeat (first | exact (Kd.N_reads' HO346.out).2.2 | (with_reducible refine Kd.C_alloc ?_ _) | (with_reducible refine Kd.C_drewN ?_ _) | (with_reducible refine Kd.C_drew ?_))); (case side2 => exact (Kd.N_reads' HO346.out).2.1); rintro e w8 ⟨v348, rfl, ho0, hb⟩; refine ⟨_, rfl, ?_⟩; have n0_ := Aside0.mk (Kd.V_elder' (by (with_reducible repeat (first | apply Kd.V_alloc | apply Kd.V_drewN | apply Kd.V_drew)); exact HO0.out) (Kd.R_base ho0) hb); have n1_ := Aside0.mk (Kd.V_elder' (by (with_reducible repeat (first | apply Kd.V_alloc | apply Kd.V_drewN | apply Kd.V_drew)); exact HO1.out) (Kd.R_base ho0) hb); have n2_ := Aside0.mk (Kd.N_elder' (by (with_reducible repeat (first | apply Kd.N_alloc | apply Kd.N_drewN | apply Kd.N_drew)); exact HO346.out) (Kd.R_base ho0) hb); have n3_ := Aside0.mk (Kd.R_lower (Kd.R_newM (M := fun k_ => (w.heap.size ≤ k_)) ho0 (below_size (bn HB)) (fun k_ h_ => h_)) (below_size (bn HB))); clear HO0; clear HO1; clear HO346; have HO0 := n0_; have HO1 := n1_; have HO346 := n2_; have HO349 := n3_; replace HB := bb HB hb; clear n0_ n1_ n2_ n3_; (try clear hb); (try clear ho0); obtain ⟨Ao9, co9, eo9⟩ := Kd.R_slice HO349.out; subst eo9) | ((with_reducible refine gate_callee (f := 49) rfl ?_); refine gl (some 10) Try.func49 #[.slice Ao9 t347.length co9] ?_; (with_reducible refine (batch_summed.calls k (fun k_ => some k_ = (.slice Ao9 t347.length co9 : Value).ownBlock) (.slice Ao9 t347.length co9) t347 t350 t353 t354 w _ ?side1 ?side2 A4.out).mono ?_); (case side1 => repeat (first | (with_reducible first | exact HB.out | apply below_alloc | apply pw_below_drewN | apply below_drew1) | exact HB.out)); (case side2 => exact Kd.R_tight rfl HO349.out); rintro e w10 ⟨v351, rfl, ho0, hy0, hb, hkp⟩; refine ⟨_, rfl, ?_⟩; have n0_ := Aside0.mk (Kd.V_mono (ok' := fun k_ => ((P0_ k_ ∨ P1_ k_) ∨ w.heap.size ≤ k_) ∧ some k_ ≠ (.slice Ao7 y344.length co7 : Value).ownBlock ∧ some k_ ≠ (.slice Ao9 t347.length co9 : Value).ownBlock ∧ some k_ ≠ (v351 : Value).ownBlock) (Kd.V_keptB (HO0.out) hkp (fun k_ hk_ hs_ => (hk_.2) hs_)) (fun k_ hk_ => ⟨hk_.1.1.1, hk_.1.1.2, hk_.1.2, fun e_ => Or.elim (ho0.1 k_ e_.symm).1 (fun hs_ => hk_.2.1 hs_) (fun hn_ => Nat.not_le.2 hk_.2.2 hn_)⟩)); have n1_ := Aside0.mk (Kd.V_mono (ok' := fun k_ => ((P0_ k_ ∨ P1_ k_) ∨ w.heap.size ≤ k_) ∧ some k_ ≠ (.slice Ao7 y344.length co7 : Value).ownBlock ∧ some k_ ≠ (.slice Ao9 t347.length co9 : Value).ownBlock ∧ some k_ ≠ (v351 : Value).ownBlock) (Kd.V_keptB (HO1.out) hkp (fun k_ hk_ hs_ => (hk_.2) hs_)) (fun k_ hk_ => ⟨hk_.1.1.1, hk_.1.1.2, hk_.1.2, fun e_ => Or.elim (ho0.1 k_ e_.symm).1 (fun hs_ => hk_.2.1 hs_) (fun hn_ => Nat.not_le.2 hk_.2.2 hn_)⟩)); have n2_ := Aside0.mk (Kd.N_mono (ok' := fun k_ => ((P0_ k_ ∨ P1_ k_) ∨ w.heap.size ≤ k_) ∧ some k_ ≠ (.slice Ao9 t347.length co9 : Value).ownBlock ∧ some k_ ≠ (v351 : Value).ownBlock) (Kd.N_keptB (HO346.out) hkp (fun k_ hk_ hs_ => (hk_.2) hs_)) (fun k_ hk_ => ⟨hk_.1.1, hk_.1.2, fun e_ => Or.elim (ho0.1 k_ e_.symm).1 (fun hs_ => hk_.2.1 hs_) (fun hn_ => Nat.not_le.2 hk_.2.2 hn_)⟩)); have n3_ := Aside0.mk (Kd.R_reok rfl hy0 (fun k_ e_ => HO349.out.1 k_ e_)); have n4_ := Aside0.mk (Kd.R_mono (ok' := fun k_ => (w.heap.size ≤ k_) ∧ some k_ ≠ (.slice Ao9 t347.length co9 : Value).ownBlock) ho0 (fun k_ hk_ => ⟨Or.elim hk_.1 (fun hs_ => (HO349.out.1 k_ (hs_).symm).1) (fun hn_ => (Nat.le_trans (below_size (bn HB)) hn_)), hk_.2⟩)); have n5_ := Aside0.mk (hb); clear HO0; clear HO1; clear HO346; clear HO349; clear HB; have HO0 := n0_; have HO1 := n1_; have HO346 := n2_; have HO349 := n3_; have HO352 := n4_; have HB := n5_; clear n0_ n1_ n2_ n3_ n4_ n5_; (try clear hb); (try clear hkp); (try clear ho0); (try clear hy0)))
 go_ret2
 exact ⟨_, by first | rfl | (simp [errW_none, errW_some] <;> rfl) | (simp [*, errW_none, errW_some] <;> rfl), by (with_reducible repeat (first | apply Kd.R_alloc | apply Kd.R_drewN | apply Kd.R_drew)); exact Kd.R_mono HO352.out (fun _ hk => hk.1), by repeat (first | (with_reducible first | exact HB.out | apply below_alloc | apply pw_below_drewN | apply below_drew1) | exact HB.out)⟩
end Go.Proofs.Ytgeldmhgbnamcaa.P
end
