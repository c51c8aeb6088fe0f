/- Walks and laws of several statements of this seat, joined into one text; no condition. -/
import Derived.Test.YtlcnckbmolefpaaProg
import Derived.Below
import Derived.Deep.Draws
import Derived.Deep.AppendLies
import Derived.Maps.AppendAt
import Derived.OwnWalk
import Derived.Laws.BytesArg
import Derived.Laws.MakeOwn
import Derived.Laws.OwnMore
import Derived.Deep.OwnRows
import Derived.Tactics
import Derived.Lib.ConvBytes
import Derived.Laws.Slices
import Derived.WalkKit
import Derived.KernelRfl
import Derived.RowKit3
import Derived.Deep.LoopGhost
import Derived.Deep.QuietTactic
import Derived.BigQuiet
import Derived.WideLaws
import Derived.Deep.DeepCutAuto
import Derived.Deep.CutBlock
import Derived.Deep.RegionHeld3
import Derived.Laws.Rows
import Derived.Lib.AppendStr
import Derived.ArgAppend
import Derived.Laws.IdiomCopy
import Derived.OrdersHeld
import Derived.Laws.BitsLemmas
import Derived.RowKit
import Derived.Laws.StructEq
import Derived.Maps.RangeWalk
import Derived.Maps.OwnRows
import Derived.Maps.Views
import Derived.Maps.OwnSet
import Derived.IntWalk
import Derived.Shelf.SlMaps.Clone
import Derived.Deep.RegionHeldLaw
import Derived.Maps.GroupsBeside
import Derived.Test.YtlcnckbmolefpaaRTa0
import Derived.Test.YtlcnckbmolefpaaRTa1
section
namespace Go.Proofs.Ytlcnckbmolefpaa.P
open Go.RowKit Go.Proofs.YtlcnckbmolefpaaW.PrintWords Go.Proofs.YtlcnckbmolefpaaW.PrintLast Go.Proofs.YtlcnckbmolefpaaW.PrintMore
attribute [local go_sem] max2_int min2_int max_two min_two max_three min_three max_four min_four   -- for this text's walks alone
set_option linter.unusedVariables false
set_option linter.unusedSimpArgs false
/-! ### clock_clash: function 83 -/
def clock_clash.f (a0_0 : Int) (a0_1 : Int) (a0_2 : Int) (a0_3 : Bool) (a1_0 : Int) (a1_1 : Int) (a1_2 : Int) (a1_3 : Bool) : Option (Bool) := (clock_plain.f a0_0 a0_1 a0_2 a0_3).bind fun t182 => (if t182 = true then ((clock_plain.f a1_0 a1_1 a1_2 a1_3).bind fun t183 => (if t183 = true then (if a0_2 = a1_2 then (if a0_0 = a1_0 then (some false) else (if a0_1 = 3 then (some true) else (some (a1_1 == 3)))) else (some false)) else (some false))) else (some false))
set_option maxHeartbeats 8000000 in
set_option maxRecDepth 100000 in
theorem clock_clash.calls (a0_0 : Int) (a0_1 : Int) (a0_2 : Int) (a0_3 : Bool) (a1_0 : Int) (a1_1 : Int) (a1_2 : Int) (a1_3 : Bool) (r : Bool) (w : World) (h : clock_clash.f a0_0 a0_1 a0_2 a0_3 a1_0 a1_1 a1_2 a1_3 = some r) :
    Calls Try.prog 83 #[.agg #[.int .i64 a0_0, .int .i64 a0_1, .int .i64 a0_2, .bool a0_3], .agg #[.int .i64 a1_0, .int .i64 a1_1, .int .i64 a1_2, .bool a1_3]] w fun e w' => e = .returned (.bool r) ∧ Below w.heap.size w w' := by
  have hu128 := Try.underlying128
  have HB := Aside0.mk (Below.refl w.heap.size w)
  have H : ((clock_plain.f a0_0 a0_1 a0_2 a0_3).bind fun t182 => (if t182 = true then ((clock_plain.f a1_0 a1_1 a1_2 a1_3).bind fun t183 => (if t183 = true then (if a0_2 = a1_2 then (if a0_0 = a1_0 then (some false) else (if a0_1 = 3 then (some true) else (some (a1_1 == 3)))) else (some false)) else (some false))) else (some false))) = some r := h
  clear h
  replace H := Option.bind_eq_some_iff.mp H
  obtain ⟨t182, A30, H⟩ := H
  replace H : (if t182 = true then ((clock_plain.f a1_0 a1_1 a1_2 a1_3).bind fun t183 => (if t183 = true then (if a0_2 = a1_2 then (if a0_0 = a1_0 then (some false) else (if a0_1 = 3 then (some true) else (some (a1_1 == 3)))) else (some false)) else (some false))) else (some false)) = some r := H
  have A3 := Aside0.mk A30
  clear A30
  by_cases c4 : t182 = true
  · subst c4
    have H1 : ((clock_plain.f a1_0 a1_1 a1_2 a1_3).bind fun t183 => (if t183 = true then (if a0_2 = a1_2 then (if a0_0 = a1_0 then (some false) else (if a0_1 = 3 then (some true) else (some (a1_1 == 3)))) else (some false)) else (some false))) = some r := by rw [if_pos rfl] at H; exact H
    clear H
    have H := H1
    clear H1
    replace H := Option.bind_eq_some_iff.mp H
    obtain ⟨t183, A50, H⟩ := H
    replace H : (if t183 = true then (if a0_2 = a1_2 then (if a0_0 = a1_0 then (some false) else (if a0_1 = 3 then (some true) else (some (a1_1 == 3)))) else (some false)) else (some false)) = some r := H
    have A5 := Aside0.mk A50
    clear A50
    by_cases c6 : t183 = true
    · subst c6
      have H1 : (if a0_2 = a1_2 then (if a0_0 = a1_0 then (some false) else (if a0_1 = 3 then (some true) else (some (a1_1 == 3)))) else (some false)) = some r := by rw [if_pos rfl] at H; exact H
      clear H
      have H := H1
      clear H1
      by_cases c7 : a0_2 = a1_2
      · rw [if_pos c7] at H
        have c7b0 : (a0_2 == a1_2) = true := beq_iff_eq.mpr c7
        have c7b1 : (a0_2 != a1_2) = false := bne_eq_false_iff_eq.mpr c7
        clear c7
        by_cases c8 : a0_0 = a1_0
        · rw [if_pos c8] at H
          have c8b0 : (a0_0 == a1_0) = true := beq_iff_eq.mpr c8
          have c8b1 : (a0_0 != a1_0) = false := bne_eq_false_iff_eq.mpr c8
          clear c8
          obtain rfl := Option.some.inj H
          go_enter Try.func83, Try.ntmps83
          go_wp2_with (first | ((with_reducible refine gate_dst (N := 2) rfl ?_); refine box_event ?hg (N := 2) ?hd (cs := #[.int .i64 a0_0, .int .i64 a0_1, .int .i64 a0_2, .bool a0_3]) (t := 128) ?hr ?_; (case hd => rfl); (case hg => rfl); (case hr => first | (go_simp; done) | (go_simp; rfl)); intro gb180 hg w9 hbox hb; have n0_ := Aside0.mk (below_step (by repeat (first | (with_reducible first | exact HB.out | apply below_alloc | apply pw_below_drewN | apply below_drew1) | exact HB.out)) hb); have n1_ := Aside0.mk (hbox); have n2_ := Aside0.mk ((by rw [hg]; exact (below_size (by repeat (first | (with_reducible first | exact HB.out | apply below_alloc | apply pw_below_drewN | apply below_drew1) | exact HB.out))) : w.heap.size ≤ gb180)); have n3_ := Aside0.mk ((by rw [hg]; exact (below_size (by repeat (first | (with_reducible first | exact HB.out | apply below_alloc | apply pw_below_drewN | apply below_drew1) | exact HB.out))) : w.heap.size ≤ gb180)); clear HB; have HB := n0_; have BK180 := n1_; have GW180 := n2_; have GE180 := n3_; clear n0_ n1_ n2_ n3_; clear hb hbox hg) | ((with_reducible refine gate_dst (N := 3) rfl ?_); refine box_event ?hg (N := 3) ?hd (cs := #[.int .i64 a1_0, .int .i64 a1_1, .int .i64 a1_2, .bool a1_3]) (t := 128) ?hr ?_; (case hd => rfl); (case hg => rfl); (case hr => first | (go_simp; done) | (go_simp; rfl)); intro gb181 hg w10 hbox hb; have n0_ := Aside0.mk (blk_below (g := gb180) (o := .cells #[.int .i64 a0_0, .int .i64 a0_1, .int .i64 a0_2, .bool a0_3] 128 (0, 0)) (by (with_reducible repeat (first | refine blk_drewN ?_ _ | refine blk_drew ?_ | refine blk_alloc ?_ _)); exact BK180.out) hb); have n1_ := Aside0.mk (below_step (by repeat (first | (with_reducible first | exact HB.out | apply below_alloc | apply pw_below_drewN | apply below_drew1 | refine below_set ?_ GE180.out) | exact HB.out)) hb); have n2_ := Aside0.mk (hbox); have n3_ := Aside0.mk ((by rw [hg]; exact (below_size (by repeat (first | (with_reducible first | exact HB.out | apply below_alloc | apply pw_below_drewN | apply below_drew1 | refine below_set ?_ GE180.out) | exact HB.out))) : w.heap.size ≤ gb181)); have n4_ := Aside0.mk ((by rw [hg]; exact (below_size (by repeat (first | (with_reducible first | exact HB.out | apply below_alloc | apply pw_below_drewN | apply below_drew1 | refine below_set ?_ GE180.out) | exact HB.out))) : w.heap.size ≤ gb181)); have n5_ := Aside0.mk ((by rw [hg]; exact Nat.ne_of_lt (blk_lt (g := gb180) (o := .cells #[.int .i64 a0_0, .int .i64 a0_1, .int .i64 a0_2, .bool a0_3] 128 (0, 0)) (by (with_reducible repeat (first | refine blk_drewN ?_ _ | refine blk_drew ?_ | refine blk_alloc ?_ _)); exact BK180.out)) : gb180 ≠ gb181)); have n6_ := Aside0.mk ((by rw [hg]; exact Nat.ne_of_gt (blk_lt (g := gb180) (o := .cells #[.int .i64 a0_0, .int .i64 a0_1, .int .i64 a0_2, .bool a0_3] 128 (0, 0)) (by (with_reducible repeat (first | refine blk_drewN ?_ _ | refine blk_drew ?_ | refine blk_alloc ?_ _)); exact BK180.out)) : gb181 ≠ gb180)); clear BK180; clear HB; have BK180 := n0_; have HB := n1_; have BK181 := n2_; have GW181 := n3_; have GE181 := n4_; have NB180_181 := n5_; have NB181_180 := n6_; clear n0_ n1_ n2_ n3_ n4_ n5_ n6_; clear hb hbox hg; have hnb11 := NB180_181.out; have hnc11 := NB181_180.out; have hcz12_0 : w10.cell? ⟨gb180, 0, none⟩ = some (.int .i64 a0_0) := (blk_cell BK180.out 0).trans rfl; have hcz12_1 : w10.cell? ⟨gb180, 1, none⟩ = some (.int .i64 a0_1) := (blk_cell BK180.out 1).trans rfl; have hcz12_2 : w10.cell? ⟨gb180, 2, none⟩ = some (.int .i64 a0_2) := (blk_cell BK180.out 2).trans rfl; have hcz12_3 : w10.cell? ⟨gb180, 3, none⟩ = some (.bool a0_3) := (blk_cell BK180.out 3).trans rfl; have hfz12_0 := blk_frozen BK180.out 0; have hfz12_1 := blk_frozen BK180.out 1; have hfz12_2 := blk_frozen BK180.out 2; have hfz12_3 := blk_frozen BK180.out 3) | ((with_reducible refine gate_callee (f := 82) rfl ?_); refine goesL_ (some 6) rfl rfl Try.func82 (by kernel_rfl) rfl #[.agg #[.int .i64 a0_0, .int .i64 a0_1, .int .i64 a0_2, .bool a0_3]] rfl (by (try simp only [List.map_toArray, List.map_cons, List.map_nil]); first | done | rfl | (simp only [List.length_drop, List.length_take]; rfl)) ?_; (with_reducible refine (clock_plain.calls a0_0 a0_1 a0_2 a0_3 true _ A3.out).mono ?_); rintro e w13 ⟨rfl, hb⟩; refine ⟨_, rfl, ?_⟩; have n0_ := Aside0.mk (blk_below (g := gb180) (o := .cells #[.int .i64 a0_0, .int .i64 a0_1, .int .i64 a0_2, .bool a0_3] 128 (0, 0)) (by (with_reducible repeat (first | refine blk_drewN ?_ _ | refine blk_drew ?_ | refine blk_alloc ?_ _)); exact BK180.out) hb); have n1_ := Aside0.mk (blk_below (g := gb181) (o := .cells #[.int .i64 a1_0, .int .i64 a1_1, .int .i64 a1_2, .bool a1_3] 128 (0, 0)) (by (with_reducible repeat (first | refine blk_drewN ?_ _ | refine blk_drew ?_ | refine blk_alloc ?_ _)); exact BK181.out) hb); have n2_ := Aside0.mk (below_step (by repeat (first | (with_reducible first | exact HB.out | apply below_alloc | apply pw_below_drewN | apply below_drew1 | refine below_set ?_ GE180.out | refine below_set ?_ GE181.out) | exact HB.out)) hb); clear BK180; clear BK181; clear HB; have BK180 := n0_; have BK181 := n1_; have HB := n2_; clear n0_ n1_ n2_; (try clear hb); (try clear hb2); (try clear hk); (try clear hi); have hcz14_0 : w13.cell? ⟨gb181, 0, none⟩ = some (.int .i64 a1_0) := (blk_cell BK181.out 0).trans rfl; have hcz14_1 : w13.cell? ⟨gb181, 1, none⟩ = some (.int .i64 a1_1) := (blk_cell BK181.out 1).trans rfl; have hcz14_2 : w13.cell? ⟨gb181, 2, none⟩ = some (.int .i64 a1_2) := (blk_cell BK181.out 2).trans rfl; have hcz14_3 : w13.cell? ⟨gb181, 3, none⟩ = some (.bool a1_3) := (blk_cell BK181.out 3).trans rfl; have hfz14_0 := blk_frozen BK181.out 0; have hfz14_1 := blk_frozen BK181.out 1; have hfz14_2 := blk_frozen BK181.out 2; have hfz14_3 := blk_frozen BK181.out 3) | (go_at_call 82; (with_reducible refine (clock_plain.calls a1_0 a1_1 a1_2 a1_3 true _ A5.out).mono ?_); rintro e w15 ⟨rfl, hb⟩; have n0_ := Aside0.mk (blk_below (g := gb180) (o := .cells #[.int .i64 a0_0, .int .i64 a0_1, .int .i64 a0_2, .bool a0_3] 128 (0, 0)) (by (with_reducible repeat (first | refine blk_drewN ?_ _ | refine blk_drew ?_ | refine blk_alloc ?_ _)); exact BK180.out) hb); have n1_ := Aside0.mk (blk_below (g := gb181) (o := .cells #[.int .i64 a1_0, .int .i64 a1_1, .int .i64 a1_2, .bool a1_3] 128 (0, 0)) (by (with_reducible repeat (first | refine blk_drewN ?_ _ | refine blk_drew ?_ | refine blk_alloc ?_ _)); exact BK181.out) hb); have n2_ := Aside0.mk (below_step (by repeat (first | (with_reducible first | exact HB.out | apply below_alloc | apply pw_below_drewN | apply below_drew1 | refine below_set ?_ GE180.out | refine below_set ?_ GE181.out) | exact HB.out)) hb); clear BK180; clear BK181; clear HB; have BK180 := n0_; have BK181 := n1_; have HB := n2_; clear n0_ n1_ n2_; (try clear hb); (try clear hb2); (try clear hk); (try clear hi); have hcz16_0 : w15.cell? ⟨gb180, 0, none⟩ = some (.int .i64 a0_0) := (blk_cell BK180.out 0).trans rfl; have hcz16_1 : w15.cell? ⟨gb180, 1, none⟩ = some (.int .i64 a0_1) := (blk_cell BK180.out 1).trans rfl; have hcz16_2 : w15.cell? ⟨gb180, 2, none⟩ = some (.int .i64 a0_2) := (blk_cell BK180.out 2).trans rfl; have hcz16_3 : w15.cell? ⟨gb180, 3, none⟩ = some (.bool a0_3) := (blk_cell BK180.out 3).trans rfl; have hfz16_0 := blk_frozen BK180.out 0; have hfz16_1 := blk_frozen BK180.out 1; have hfz16_2 := blk_frozen BK180.out 2; have hfz16_3 := blk_frozen BK180.out 3; have hcz17_0 : w15.cell? ⟨gb181, 0, none⟩ = some (.int .i64 a1_0) := (blk_cell BK181.out 0).trans rfl; have hcz17_1 : w15.cell? ⟨gb181, 1, none⟩ = some (.int .i64 a1_1) := (blk_cell BK181.out 1).trans rfl; have hcz17_2 : w15.cell? ⟨gb181, 2, none⟩ = some (.int .i64 a1_2) := (blk_cell BK181.out 2).trans rfl; have hcz17_3 : w15.cell? ⟨gb181, 3, none⟩ = some (.bool a1_3) := (blk_cell BK181.out 3).trans rfl; have hfz17_0 := blk_frozen BK181.out 0; have hfz17_1 := blk_frozen BK181.out 1; have hfz17_2 := blk_frozen BK181.out 2; have hfz17_3 := blk_frozen BK181.out 3))
          go_ret
          exact ⟨by first | rfl | (simp [errW_none, errW_some] <;> rfl) | (simp [*, errW_none, errW_some] <;> rfl), by repeat (first | (with_reducible first | exact HB.out | apply below_alloc | apply pw_below_drewN | apply below_drew1 | refine below_set ?_ GE180.out | refine below_set ?_ GE181.out) | exact HB.out)⟩
        · rw [if_neg c8] at H
          have c8b0 : (a0_0 == a1_0) = false := beq_eq_false_iff_ne.mpr c8
          have c8b1 : (a0_0 != a1_0) = true := bne_iff_ne.mpr c8
          by_cases c18 : a0_1 = 3
          · rw [if_pos c18] at H
            have c18b0 : (a0_1 == 3) = true := beq_iff_eq.mpr c18
            have c18b1 : (a0_1 != 3) = false := bne_eq_false_iff_eq.mpr c18
            clear c18
            obtain rfl := Option.some.inj H
            go_enter Try.func83, Try.ntmps83
            go_wp2_with (first | ((with_reducible refine gate_dst (N := 2) rfl ?_); refine box_event ?hg (N := 2) ?hd (cs := #[.int .i64 a0_0, .int .i64 a0_1, .int .i64 a0_2, .bool a0_3]) (t := 128) ?hr ?_; (case hd => rfl); (case hg => rfl); (case hr => first | (go_simp; done) | (go_simp; rfl)); intro gb180 hg w19 hbox hb; have n0_ := Aside0.mk (below_step (by repeat (first | (with_reducible first | exact HB.out | apply below_alloc | apply pw_below_drewN | apply below_drew1) | exact HB.out)) hb); have n1_ := Aside0.mk (hbox); have n2_ := Aside0.mk ((by rw [hg]; exact (below_size (by repeat (first | (with_reducible first | exact HB.out | apply below_alloc | apply pw_below_drewN | apply below_drew1) | exact HB.out))) : w.heap.size ≤ gb180)); have n3_ := Aside0.mk ((by rw [hg]; exact (below_size (by repeat (first | (with_reducible first | exact HB.out | apply below_alloc | apply pw_below_drewN | apply below_drew1) | exact HB.out))) : w.heap.size ≤ gb180)); clear HB; have HB := n0_; have BK180 := n1_; have GW180 := n2_; have GE180 := n3_; clear n0_ n1_ n2_ n3_; clear hb hbox hg) | ((with_reducible refine gate_dst (N := 3) rfl ?_); refine box_event ?hg (N := 3) ?hd (cs := #[.int .i64 a1_0, .int .i64 a1_1, .int .i64 a1_2, .bool a1_3]) (t := 128) ?hr ?_; (case hd => rfl); (case hg => rfl); (case hr => first | (go_simp; done) | (go_simp; rfl)); intro gb181 hg w20 hbox hb; have n0_ := Aside0.mk (blk_below (g := gb180) (o := .cells #[.int .i64 a0_0, .int .i64 a0_1, .int .i64 a0_2, .bool a0_3] 128 (0, 0)) (by (with_reducible repeat (first | refine blk_drewN ?_ _ | refine blk_drew ?_ | refine blk_alloc ?_ _)); exact BK180.out) hb); have n1_ := Aside0.mk (below_step (by repeat (first | (with_reducible first | exact HB.out | apply below_alloc | apply pw_below_drewN | apply below_drew1 | refine below_set ?_ GE180.out) | exact HB.out)) hb); have n2_ := Aside0.mk (hbox); have n3_ := Aside0.mk ((by rw [hg]; exact (below_size (by repeat (first | (with_reducible first | exact HB.out | apply below_alloc | apply pw_below_drewN | apply below_drew1 | refine below_set ?_ GE180.out) | exact HB.out))) : w.heap.size ≤ gb181)); have n4_ := Aside0.mk ((by rw [hg]; exact (below_size (by repeat (first | (with_reducible first | exact HB.out | apply below_alloc | apply pw_below_drewN | apply below_drew1 | refine below_set ?_ GE180.out) | exact HB.out))) : w.heap.size ≤ gb181)); have n5_ := Aside0.mk ((by rw [hg]; exact Nat.ne_of_lt (blk_lt (g := gb180) (o := .cells #[.int .i64 a0_0, .int .i64 a0_1, .int .i64 a0_2, .bool a0_3] 128 (0, 0)) (by (with_reducible repeat (first | refine blk_drewN ?_ _ | refine blk_drew ?_ | refine blk_alloc ?_ _)); exact BK180.out)) : gb180 ≠ gb181)); have n6_ := Aside0.mk ((by rw [hg]; exact Nat.ne_of_gt (blk_lt (g := gb180) (o := .cells #[.int .i64 a0_0, .int .i64 a0_1, .int .i64 a0_2, .bool a0_3] 128 (0, 0)) (by (with_reducible repeat (first | refine blk_drewN ?_ _ | refine blk_drew ?_ | refine blk_alloc ?_ _)); exact BK180.out)) : gb181 ≠ gb180)); clear BK180; clear HB; have BK180 := n0_; have HB := n1_; have BK181 := n2_; have GW181 := n3_; have GE181 := n4_; have NB180_181 := n5_; have NB181_180 := n6_; clear n0_ n1_ n2_ n3_ n4_ n5_ n6_; clear hb hbox hg; have hnb21 := NB180_181.out; have hnc21 := NB181_180.out; have hcz22_0 : w20.cell? ⟨gb180, 0, none⟩ = some (.int .i64 a0_0) := (blk_cell BK180.out 0).trans rfl; have hcz22_1 : w20.cell? ⟨gb180, 1, none⟩ = some (.int .i64 a0_1) := (blk_cell BK180.out 1).trans rfl; have hcz22_2 : w20.cell? ⟨gb180, 2, none⟩ = some (.int .i64 a0_2) := (blk_cell BK180.out 2).trans rfl; have hcz22_3 : w20.cell? ⟨gb180, 3, none⟩ = some (.bool a0_3) := (blk_cell BK180.out 3).trans rfl; have hfz22_0 := blk_frozen BK180.out 0; have hfz22_1 := blk_frozen BK180.out 1; have hfz22_2 := blk_frozen BK180.out 2; have hfz22_3 := blk_frozen BK180.out 3) | ((with_reducible refine gate_callee (f := 82) rfl ?_); refine goesL_ (some 6) rfl rfl Try.func82 (by kernel_rfl) rfl #[.agg #[.int .i64 a0_0, .int .i64 a0_1, .int .i64 a0_2, .bool a0_3]] rfl (by (try simp only [List.map_toArray, List.map_cons, List.map_nil]); first | done | rfl | (simp only [List.length_drop, List.length_take]; rfl)) ?_; (with_reducible refine (clock_plain.calls a0_0 a0_1 a0_2 a0_3 true _ A3.out).mono ?_); rintro e w23 ⟨rfl, hb⟩; refine ⟨_, rfl, ?_⟩; have n0_ := Aside0.mk (blk_below (g := gb180) (o := .cells #[.int .i64 a0_0, .int .i64 a0_1, .int .i64 a0_2, .bool a0_3] 128 (0, 0)) (by (with_reducible repeat (first | refine blk_drewN ?_ _ | refine blk_drew ?_ | refine blk_alloc ?_ _)); exact BK180.out) hb); have n1_ := Aside0.mk (blk_below (g := gb181) (o := .cells #[.int .i64 a1_0, .int .i64 a1_1, .int .i64 a1_2, .bool a1_3] 128 (0, 0)) (by (with_reducible repeat (first | refine blk_drewN ?_ _ | refine blk_drew ?_ | refine blk_alloc ?_ _)); exact BK181.out) hb); have n2_ := Aside0.mk (below_step (by repeat (first | (with_reducible first | exact HB.out | apply below_alloc | apply pw_below_drewN | apply below_drew1 | refine below_set ?_ GE180.out | refine below_set ?_ GE181.out) | exact HB.out)) hb); clear BK180; clear BK181; clear HB; have BK180 := n0_; have BK181 := n1_; have HB := n2_; clear n0_ n1_ n2_; (try clear hb); (try clear hb2); (try clear hk); (try clear hi); have hcz24_0 : w23.cell? ⟨gb181, 0, none⟩ = some (.int .i64 a1_0) := (blk_cell BK181.out 0).trans rfl; have hcz24_1 : w23.cell? ⟨gb181, 1, none⟩ = some (.int .i64 a1_1) := (blk_cell BK181.out 1).trans rfl; have hcz24_2 : w23.cell? ⟨gb181, 2, none⟩ = some (.int .i64 a1_2) := (blk_cell BK181.out 2).trans rfl; have hcz24_3 : w23.cell? ⟨gb181, 3, none⟩ = some (.bool a1_3) := (blk_cell BK181.out 3).trans rfl; have hfz24_0 := blk_frozen BK181.out 0; have hfz24_1 := blk_frozen BK181.out 1; have hfz24_2 := blk_frozen BK181.out 2; have hfz24_3 := blk_frozen BK181.out 3) | (go_at_call 82; (with_reducible refine (clock_plain.calls a1_0 a1_1 a1_2 a1_3 true _ A5.out).mono ?_); rintro e w25 ⟨rfl, hb⟩; have n0_ := Aside0.mk (blk_below (g := gb180) (o := .cells #[.int .i64 a0_0, .int .i64 a0_1, .int .i64 a0_2, .bool a0_3] 128 (0, 0)) (by (with_reducible repeat (first | refine blk_drewN ?_ _ | refine blk_drew ?_ | refine blk_alloc ?_ _)); exact BK180.out) hb); have n1_ := Aside0.mk (blk_below (g := gb181) (o := .cells #[.int .i64 a1_0, .int .i64 a1_1, .int .i64 a1_2, .bool a1_3] 128 (0, 0)) (by (with_reducible repeat (first | refine blk_drewN ?_ _ | refine blk_drew ?_ | refine blk_alloc ?_ _)); exact BK181.out) hb); have n2_ := Aside0.mk (below_step (by repeat (first | (with_reducible first | exact HB.out | apply below_alloc | apply pw_below_drewN | apply below_drew1 | refine below_set ?_ GE180.out | refine below_set ?_ GE181.out) | exact HB.out)) hb); clear BK180; clear BK181; clear HB; have BK180 := n0_; have BK181 := n1_; have HB := n2_; clear n0_ n1_ n2_; (try clear hb); (try clear hb2); (try clear hk); (try clear hi); have hcz26_0 : w25.cell? ⟨gb180, 0, none⟩ = some (.int .i64 a0_0) := (blk_cell BK180.out 0).trans rfl; have hcz26_1 : w25.cell? ⟨gb180, 1, none⟩ = some (.int .i64 a0_1) := (blk_cell BK180.out 1).trans rfl; have hcz26_2 : w25.cell? ⟨gb180, 2, none⟩ = some (.int .i64 a0_2) := (blk_cell BK180.out 2).trans rfl; have hcz26_3 : w25.cell? ⟨gb180, 3, none⟩ = some (.bool a0_3) := (blk_cell BK180.out 3).trans rfl; have hfz26_0 := blk_frozen BK180.out 0; have hfz26_1 := blk_frozen BK180.out 1; have hfz26_2 := blk_frozen BK180.out 2; have hfz26_3 := blk_frozen BK180.out 3; have hcz27_0 : w25.cell? ⟨gb181, 0, none⟩ = some (.int .i64 a1_0) := (blk_cell BK181.out 0).trans rfl; have hcz27_1 : w25.cell? ⟨gb181, 1, none⟩ = some (.int .i64 a1_1) := (blk_cell BK181.out 1).trans rfl; have hcz27_2 : w25.cell? ⟨gb181, 2, none⟩ = some (.int .i64 a1_2) := (blk_cell BK181.out 2).trans rfl; have hcz27_3 : w25.cell? ⟨gb181, 3, none⟩ = some (.bool a1_3) := (blk_cell BK181.out 3).trans rfl; have hfz27_0 := blk_frozen BK181.out 0; have hfz27_1 := blk_frozen BK181.out 1; have hfz27_2 := blk_frozen BK181.out 2; have hfz27_3 := blk_frozen BK181.out 3))
            go_ret
            exact ⟨by first | rfl | (simp [errW_none, errW_some] <;> rfl) | (simp [*, errW_none, errW_some] <;> rfl), by repeat (first | (with_reducible first | exact HB.out | apply below_alloc | apply pw_below_drewN | apply below_drew1 | refine below_set ?_ GE180.out | refine below_set ?_ GE181.out) | exact HB.out)⟩
          · rw [if_neg c18] at H
            have c18b0 : (a0_1 == 3) = false := beq_eq_false_iff_ne.mpr c18
            have c18b1 : (a0_1 != 3) = true := bne_iff_ne.mpr c18
            obtain rfl := Option.some.inj H
            go_enter Try.func83, Try.ntmps83
            go_wp2_with (first | ((with_reducible refine gate_dst (N := 2) rfl ?_); refine box_event ?hg (N := 2) ?hd (cs := #[.int .i64 a0_0, .int .i64 a0_1, .int .i64 a0_2, .bool a0_3]) (t := 128) ?hr ?_; (case hd => rfl); (case hg => rfl); (case hr => first | (go_simp; done) | (go_simp; rfl)); intro gb180 hg w28 hbox hb; have n0_ := Aside0.mk (below_step (by repeat (first | (with_reducible first | exact HB.out | apply below_alloc | apply pw_below_drewN | apply below_drew1) | exact HB.out)) hb); have n1_ := Aside0.mk (hbox); have n2_ := Aside0.mk ((by rw [hg]; exact (below_size (by repeat (first | (with_reducible first | exact HB.out | apply below_alloc | apply pw_below_drewN | apply below_drew1) | exact HB.out))) : w.heap.size ≤ gb180)); have n3_ := Aside0.mk ((by rw [hg]; exact (below_size (by repeat (first | (with_reducible first | exact HB.out | apply below_alloc | apply pw_below_drewN | apply below_drew1) | exact HB.out))) : w.heap.size ≤ gb180)); clear HB; have HB := n0_; have BK180 := n1_; have GW180 := n2_; have GE180 := n3_; clear n0_ n1_ n2_ n3_; clear hb hbox hg) | ((with_reducible refine gate_dst (N := 3) rfl ?_); refine box_event ?hg (N := 3) ?hd (cs := #[.int .i64 a1_0, .int .i64 a1_1, .int .i64 a1_2, .bool a1_3]) (t := 128) ?hr ?_; (case hd => rfl); (case hg => rfl); (case hr => first | (go_simp; done) | (go_simp; rfl)); intro gb181 hg w29 hbox hb; have n0_ := Aside0.mk (blk_below (g := gb180) (o := .cells #[.int .i64 a0_0, .int .i64 a0_1, .int .i64 a0_2, .bool a0_3] 128 (0, 0)) (by (with_reducible repeat (first | refine blk_drewN ?_ _ | refine blk_drew ?_ | refine blk_alloc ?_ _)); exact BK180.out) hb); have n1_ := Aside0.mk (below_step (by repeat (first | (with_reducible first | exact HB.out | apply below_alloc | apply pw_below_drewN | apply below_drew1 | refine below_set ?_ GE180.out) | exact HB.out)) hb); have n2_ := Aside0.mk (hbox); have n3_ := Aside0.mk ((by rw [hg]; exact (below_size (by repeat (first | (with_reducible first | exact HB.out | apply below_alloc | apply pw_below_drewN | apply below_drew1 | refine below_set ?_ GE180.out) | exact HB.out))) : w.heap.size ≤ gb181)); have n4_ := Aside0.mk ((by rw [hg]; exact (below_size (by repeat (first | (with_reducible first | exact HB.out | apply below_alloc | apply pw_below_drewN | apply below_drew1 | refine below_set ?_ GE180.out) | exact HB.out))) : w.heap.size ≤ gb181)); have n5_ := Aside0.mk ((by rw [hg]; exact Nat.ne_of_lt (blk_lt (g := gb180) (o := .cells #[.int .i64 a0_0, .int .i64 a0_1, .int .i64 a0_2, .bool a0_3] 128 (0, 0)) (by (with_reducible repeat (first | refine blk_drewN ?_ _ | refine blk_drew ?_ | refine blk_alloc ?_ _)); exact BK180.out)) : gb180 ≠ gb181)); have n6_ := Aside0.mk ((by rw [hg]; exact Nat.ne_of_gt (blk_lt (g := gb180) (o := .cells #[.int .i64 a0_0, .int .i64 a0_1, .int .i64 a0_2, .bool a0_3] 128 (0, 0)) (by (with_reducible repeat (first | refine blk_drewN ?_ _ | refine blk_drew ?_ | refine blk_alloc ?_ _)); exact BK180.out)) : gb181 ≠ gb180)); clear BK180; clear HB; have BK180 := n0_; have HB := n1_; have BK181 := n2_; have GW181 := n3_; have GE181 := n4_; have NB180_181 := n5_; have NB181_180 := n6_; clear n0_ n1_ n2_ n3_ n4_ n5_ n6_; clear hb hbox hg; have hnb30 := NB180_181.out; have hnc30 := NB181_180.out; have hcz31_0 : w29.cell? ⟨gb180, 0, none⟩ = some (.int .i64 a0_0) := (blk_cell BK180.out 0).trans rfl; have hcz31_1 : w29.cell? ⟨gb180, 1, none⟩ = some (.int .i64 a0_1) := (blk_cell BK180.out 1).trans rfl; have hcz31_2 : w29.cell? ⟨gb180, 2, none⟩ = some (.int .i64 a0_2) := (blk_cell BK180.out 2).trans rfl; have hcz31_3 : w29.cell? ⟨gb180, 3, none⟩ = some (.bool a0_3) := (blk_cell BK180.out 3).trans rfl; have hfz31_0 := blk_frozen BK180.out 0; have hfz31_1 := blk_frozen BK180.out 1; have hfz31_2 := blk_frozen BK180.out 2; have hfz31_3 := blk_frozen BK180.out 3) | ((with_reducible refine gate_callee (f := 82) rfl ?_); refine goesL_ (some 6) rfl rfl Try.func82 (by kernel_rfl) rfl #[.agg #[.int .i64 a0_0, .int .i64 a0_1, .int .i64 a0_2, .bool a0_3]] rfl (by (try simp only [List.map_toArray, List.map_cons, List.map_nil]); first | done | rfl | (simp only [List.length_drop, List.length_take]; rfl)) ?_; (with_reducible refine (clock_plain.calls a0_0 a0_1 a0_2 a0_3 true _ A3.out).mono ?_); rintro e w32 ⟨rfl, hb⟩; refine ⟨_, rfl, ?_⟩; have n0_ := Aside0.mk (blk_below (g := gb180) (o := .cells #[.int .i64 a0_0, .int .i64 a0_1, .int .i64 a0_2, .bool a0_3] 128 (0, 0)) (by (with_reducible repeat (first | refine blk_drewN ?_ _ | refine blk_drew ?_ | refine blk_alloc ?_ _)); exact BK180.out) hb); have n1_ := Aside0.mk (blk_below (g := gb181) (o := .cells #[.int .i64 a1_0, .int .i64 a1_1, .int .i64 a1_2, .bool a1_3] 128 (0, 0)) (by (with_reducible repeat (first | refine blk_drewN ?_ _ | refine blk_drew ?_ | refine blk_alloc ?_ _)); exact BK181.out) hb); have n2_ := Aside0.mk (below_step (by repeat (first | (with_reducible first | exact HB.out | apply below_alloc | apply pw_below_drewN | apply below_drew1 | refine below_set ?_ GE180.out | refine below_set ?_ GE181.out) | exact HB.out)) hb); clear BK180; clear BK181; clear HB; have BK180 := n0_; have BK181 := n1_; have HB := n2_; clear n0_ n1_ n2_; (try clear hb); (try clear hb2); (try clear hk); (try clear hi); have hcz33_0 : w32.cell? ⟨gb181, 0, none⟩ = some (.int .i64 a1_0) := (blk_cell BK181.out 0).trans rfl; have hcz33_1 : w32.cell? ⟨gb181, 1, none⟩ = some (.int .i64 a1_1) := (blk_cell BK181.out 1).trans rfl; have hcz33_2 : w32.cell? ⟨gb181, 2, none⟩ = some (.int .i64 a1_2) := (blk_cell BK181.out 2).trans rfl; have hcz33_3 : w32.cell? ⟨gb181, 3, none⟩ = some (.bool a1_3) := (blk_cell BK181.out 3).trans rfl; have hfz33_0 := blk_frozen BK181.out 0; have hfz33_1 := blk_frozen BK181.out 1; have hfz33_2 := blk_frozen BK181.out 2; have hfz33_3 := blk_frozen BK181.out 3) | (go_at_call 82; (with_reducible refine (clock_plain.calls a1_0 a1_1 a1_2 a1_3 true _ A5.out).mono ?_); rintro e w34 ⟨rfl, hb⟩; have n0_ := Aside0.mk (blk_below (g := gb180) (o := .cells #[.int .i64 a0_0, .int .i64 a0_1, .int .i64 a0_2, .bool a0_3] 128 (0, 0)) (by (with_reducible repeat (first | refine blk_drewN ?_ _ | refine blk_drew ?_ | refine blk_alloc ?_ _)); exact BK180.out) hb); have n1_ := Aside0.mk (blk_below (g := gb181) (o := .cells #[.int .i64 a1_0, .int .i64 a1_1, .int .i64 a1_2, .bool a1_3] 128 (0, 0)) (by (with_reducible repeat (first | refine blk_drewN ?_ _ | refine blk_drew ?_ | refine blk_alloc ?_ _)); exact BK181.out) hb); have n2_ := Aside0.mk (below_step (by repeat (first | (with_reducible first | exact HB.out | apply below_alloc | apply pw_below_drewN | apply below_drew1 | refine below_set ?_ GE180.out | refine below_set ?_ GE181.out) | exact HB.out)) hb); clear BK180; clear BK181; clear HB; have BK180 := n0_; have BK181 := n1_; have HB := n2_; clear n0_ n1_ n2_; (try clear hb); (try clear hb2); (try clear hk); (try clear hi); have hcz35_0 : w34.cell? ⟨gb180, 0, none⟩ = some (.int .i64 a0_0) := (blk_cell BK180.out 0).trans rfl; have hcz35_1 : w34.cell? ⟨gb180, 1, none⟩ = some (.int .i64 a0_1) := (blk_cell BK180.out 1).trans rfl; have hcz35_2 : w34.cell? ⟨gb180, 2, none⟩ = some (.int .i64 a0_2) := (blk_cell BK180.out 2).trans rfl; have hcz35_3 : w34.cell? ⟨gb180, 3, none⟩ = some (.bool a0_3) := (blk_cell BK180.out 3).trans rfl; have hfz35_0 := blk_frozen BK180.out 0; have hfz35_1 := blk_frozen BK180.out 1; have hfz35_2 := blk_frozen BK180.out 2; have hfz35_3 := blk_frozen BK180.out 3; have hcz36_0 : w34.cell? ⟨gb181, 0, none⟩ = some (.int .i64 a1_0) := (blk_cell BK181.out 0).trans rfl; have hcz36_1 : w34.cell? ⟨gb181, 1, none⟩ = some (.int .i64 a1_1) := (blk_cell BK181.out 1).trans rfl; have hcz36_2 : w34.cell? ⟨gb181, 2, none⟩ = some (.int .i64 a1_2) := (blk_cell BK181.out 2).trans rfl; have hcz36_3 : w34.cell? ⟨gb181, 3, none⟩ = some (.bool a1_3) := (blk_cell BK181.out 3).trans rfl; have hfz36_0 := blk_frozen BK181.out 0; have hfz36_1 := blk_frozen BK181.out 1; have hfz36_2 := blk_frozen BK181.out 2; have hfz36_3 := blk_frozen BK181.out 3))
            go_ret
            exact ⟨by first | rfl | (simp [errW_none, errW_some] <;> rfl) | (simp [*, errW_none, errW_some] <;> rfl), by repeat (first | (with_reducible first | exact HB.out | apply below_alloc | apply pw_below_drewN | apply below_drew1 | refine below_set ?_ GE180.out | refine below_set ?_ GE181.out) | exact HB.out)⟩
      · rw [if_neg c7] at H
        have c7b0 : (a0_2 == a1_2) = false := beq_eq_false_iff_ne.mpr c7
        have c7b1 : (a0_2 != a1_2) = true := bne_iff_ne.mpr c7
        obtain rfl := Option.some.inj H
        go_enter Try.func83, Try.ntmps83
        go_wp2_with (first | ((with_reducible refine gate_dst (N := 2) rfl ?_); refine box_event ?hg (N := 2) ?hd (cs := #[.int .i64 a0_0, .int .i64 a0_1, .int .i64 a0_2, .bool a0_3]) (t := 128) ?hr ?_; (case hd => rfl); (case hg => rfl); (case hr => first | (go_simp; done) | (go_simp; rfl)); intro gb180 hg w37 hbox hb; have n0_ := Aside0.mk (below_step (by repeat (first | (with_reducible first | exact HB.out | apply below_alloc | apply pw_below_drewN | apply below_drew1) | exact HB.out)) hb); have n1_ := Aside0.mk (hbox); have n2_ := Aside0.mk ((by rw [hg]; exact (below_size (by repeat (first | (with_reducible first | exact HB.out | apply below_alloc | apply pw_below_drewN | apply below_drew1) | exact HB.out))) : w.heap.size ≤ gb180)); have n3_ := Aside0.mk ((by rw [hg]; exact (below_size (by repeat (first | (with_reducible first | exact HB.out | apply below_alloc | apply pw_below_drewN | apply below_drew1) | exact HB.out))) : w.heap.size ≤ gb180)); clear HB; have HB := n0_; have BK180 := n1_; have GW180 := n2_; have GE180 := n3_; clear n0_ n1_ n2_ n3_; clear hb hbox hg) | ((with_reducible refine gate_dst (N := 3) rfl ?_); refine box_event ?hg (N := 3) ?hd (cs := #[.int .i64 a1_0, .int .i64 a1_1, .int .i64 a1_2, .bool a1_3]) (t := 128) ?hr ?_; (case hd => rfl); (case hg => rfl); (case hr => first | (go_simp; done) | (go_simp; rfl)); intro gb181 hg w38 hbox hb; have n0_ := Aside0.mk (blk_below (g := gb180) (o := .cells #[.int .i64 a0_0, .int .i64 a0_1, .int .i64 a0_2, .bool a0_3] 128 (0, 0)) (by (with_reducible repeat (first | refine blk_drewN ?_ _ | refine blk_drew ?_ | refine blk_alloc ?_ _)); exact BK180.out) hb); have n1_ := Aside0.mk (below_step (by repeat (first | (with_reducible first | exact HB.out | apply below_alloc | apply pw_below_drewN | apply below_drew1 | refine below_set ?_ GE180.out) | exact HB.out)) hb); have n2_ := Aside0.mk (hbox); have n3_ := Aside0.mk ((by rw [hg]; exact (below_size (by repeat (first | (with_reducible first | exact HB.out | apply below_alloc | apply pw_below_drewN | apply below_drew1 | refine below_set ?_ GE180.out) | exact HB.out))) : w.heap.size ≤ gb181)); have n4_ := Aside0.mk ((by rw [hg]; exact (below_size (by repeat (first | (with_reducible first | exact HB.out | apply below_alloc | apply pw_below_drewN | apply below_drew1 | refine below_set ?_ GE180.out) | exact HB.out))) : w.heap.size ≤ gb181)); have n5_ := Aside0.mk ((by rw [hg]; exact Nat.ne_of_lt (blk_lt (g := gb180) (o := .cells #[.int .i64 a0_0, .int .i64 a0_1, .int .i64 a0_2, .bool a0_3] 128 (0, 0)) (by (with_reducible repeat (first | refine blk_drewN ?_ _ | refine blk_drew ?_ | refine blk_alloc ?_ _)); exact BK180.out)) : gb180 ≠ gb181)); have n6_ := Aside0.mk ((by rw [hg]; exact Nat.ne_of_gt (blk_lt (g := gb180) (o := .cells #[.int .i64 a0_0, .int .i64 a0_1, .int .i64 a0_2, .bool a0_3] 128 (0, 0)) (by (with_reducible repeat (first | refine blk_drewN ?_ _ | refine blk_drew ?_ | refine blk_alloc ?_ _)); exact BK180.out)) : gb181 ≠ gb180)); clear BK180; clear HB; have BK180 := n0_; have HB := n1_; have BK181 := n2_; have GW181 := n3_; have GE181 := n4_; have NB180_181 := n5_; have NB181_180 := n6_; clear n0_ n1_ n2_ n3_ n4_ n5_ n6_; clear hb hbox hg; have hnb39 := NB180_181.out; have hnc39 := NB181_180.out; have hcz40_0 : w38.cell? ⟨gb180, 0, none⟩ = some (.int .i64 a0_0) := (blk_cell BK180.out 0).trans rfl; have hcz40_1 : w38.cell? ⟨gb180, 1, none⟩ = some (.int .i64 a0_1) := (blk_cell BK180.out 1).trans rfl; have hcz40_2 : w38.cell? ⟨gb180, 2, none⟩ = some (.int .i64 a0_2) := (blk_cell BK180.out 2).trans rfl; have hcz40_3 : w38.cell? ⟨gb180, 3, none⟩ = some (.bool a0_3) := (blk_cell BK180.out 3).trans rfl; have hfz40_0 := blk_frozen BK180.out 0; have hfz40_1 := blk_frozen BK180.out 1; have hfz40_2 := blk_frozen BK180.out 2; have hfz40_3 := blk_frozen BK180.out 3) | ((with_reducible refine gate_callee (f := 82) rfl ?_); refine goesL_ (some 6) rfl rfl Try.func82 (by kernel_rfl) rfl #[.agg #[.int .i64 a0_0, .int .i64 a0_1, .int .i64 a0_2, .bool a0_3]] rfl (by (try simp only [List.map_toArray, List.map_cons, List.map_nil]); first | done | rfl | (simp only [List.length_drop, List.length_take]; rfl)) ?_; (with_reducible refine (clock_plain.calls a0_0 a0_1 a0_2 a0_3 true _ A3.out).mono ?_); rintro e w41 ⟨rfl, hb⟩; refine ⟨_, rfl, ?_⟩; have n0_ := Aside0.mk (blk_below (g := gb180) (o := .cells #[.int .i64 a0_0, .int .i64 a0_1, .int .i64 a0_2, .bool a0_3] 128 (0, 0)) (by (with_reducible repeat (first | refine blk_drewN ?_ _ | refine blk_drew ?_ | refine blk_alloc ?_ _)); exact BK180.out) hb); have n1_ := Aside0.mk (blk_below (g := gb181) (o := .cells #[.int .i64 a1_0, .int .i64 a1_1, .int .i64 a1_2, .bool a1_3] 128 (0, 0)) (by (with_reducible repeat (first | refine blk_drewN ?_ _ | refine blk_drew ?_ | refine blk_alloc ?_ _)); exact BK181.out) hb); have n2_ := Aside0.mk (below_step (by repeat (first | (with_reducible first | exact HB.out | apply below_alloc | apply pw_below_drewN | apply below_drew1 | refine below_set ?_ GE180.out | refine below_set ?_ GE181.out) | exact HB.out)) hb); clear BK180; clear BK181; clear HB; have BK180 := n0_; have BK181 := n1_; have HB := n2_; clear n0_ n1_ n2_; (try clear hb); (try clear hb2); (try clear hk); (try clear hi); have hcz42_0 : w41.cell? ⟨gb181, 0, none⟩ = some (.int .i64 a1_0) := (blk_cell BK181.out 0).trans rfl; have hcz42_1 : w41.cell? ⟨gb181, 1, none⟩ = some (.int .i64 a1_1) := (blk_cell BK181.out 1).trans rfl; have hcz42_2 : w41.cell? ⟨gb181, 2, none⟩ = some (.int .i64 a1_2) := (blk_cell BK181.out 2).trans rfl; have hcz42_3 : w41.cell? ⟨gb181, 3, none⟩ = some (.bool a1_3) := (blk_cell BK181.out 3).trans rfl; have hfz42_0 := blk_frozen BK181.out 0; have hfz42_1 := blk_frozen BK181.out 1; have hfz42_2 := blk_frozen BK181.out 2; have hfz42_3 := blk_frozen BK181.out 3) | (go_at_call 82; (with_reducible refine (clock_plain.calls a1_0 a1_1 a1_2 a1_3 true _ A5.out).mono ?_); rintro e w43 ⟨rfl, hb⟩; have n0_ := Aside0.mk (blk_below (g := gb180) (o := .cells #[.int .i64 a0_0, .int .i64 a0_1, .int .i64 a0_2, .bool a0_3] 128 (0, 0)) (by (with_reducible repeat (first | refine blk_drewN ?_ _ | refine blk_drew ?_ | refine blk_alloc ?_ _)); exact BK180.out) hb); have n1_ := Aside0.mk (blk_below (g := gb181) (o := .cells #[.int .i64 a1_0, .int .i64 a1_1, .int .i64 a1_2, .bool a1_3] 128 (0, 0)) (by (with_reducible repeat (first | refine blk_drewN ?_ _ | refine blk_drew ?_ | refine blk_alloc ?_ _)); exact BK181.out) hb); have n2_ := Aside0.mk (below_step (by repeat (first | (with_reducible first | exact HB.out | apply below_alloc | apply pw_below_drewN | apply below_drew1 | refine below_set ?_ GE180.out | refine below_set ?_ GE181.out) | exact HB.out)) hb); clear BK180; clear BK181; clear HB; have BK180 := n0_; have BK181 := n1_; have HB := n2_; clear n0_ n1_ n2_; (try clear hb); (try clear hb2); (try clear hk); (try clear hi); have hcz44_0 : w43.cell? ⟨gb180, 0, none⟩ = some (.int .i64 a0_0) := (blk_cell BK180.out 0).trans rfl; have hcz44_1 : w43.cell? ⟨gb180, 1, none⟩ = some (.int .i64 a0_1) := (blk_cell BK180.out 1).trans rfl; have hcz44_2 : w43.cell? ⟨gb180, 2, none⟩ = some (.int .i64 a0_2) := (blk_cell BK180.out 2).trans rfl; have hcz44_3 : w43.cell? ⟨gb180, 3, none⟩ = some (.bool a0_3) := (blk_cell BK180.out 3).trans rfl; have hfz44_0 := blk_frozen BK180.out 0; have hfz44_1 := blk_frozen BK180.out 1; have hfz44_2 := blk_frozen BK180.out 2; have hfz44_3 := blk_frozen BK180.out 3; have hcz45_0 : w43.cell? ⟨gb181, 0, none⟩ = some (.int .i64 a1_0) := (blk_cell BK181.out 0).trans rfl; have hcz45_1 : w43.cell? ⟨gb181, 1, none⟩ = some (.int .i64 a1_1) := (blk_cell BK181.out 1).trans rfl; have hcz45_2 : w43.cell? ⟨gb181, 2, none⟩ = some (.int .i64 a1_2) := (blk_cell BK181.out 2).trans rfl; have hcz45_3 : w43.cell? ⟨gb181, 3, none⟩ = some (.bool a1_3) := (blk_cell BK181.out 3).trans rfl; have hfz45_0 := blk_frozen BK181.out 0; have hfz45_1 := blk_frozen BK181.out 1; have hfz45_2 := blk_frozen BK181.out 2; have hfz45_3 := blk_frozen BK181.out 3))
        go_ret
        exact ⟨by first | rfl | (simp [errW_none, errW_some] <;> rfl) | (simp [*, errW_none, errW_some] <;> rfl), by repeat (first | (with_reducible first | exact HB.out | apply below_alloc | apply pw_below_drewN | apply below_drew1 | refine below_set ?_ GE180.out | refine below_set ?_ GE181.out) | exact HB.out)⟩
    · replace c6 := Bool.eq_false_iff.mpr c6
      subst c6
      have H1 : (some false) = some r := by rw [if_neg (show ¬ (false = true) by decide)] at H; exact H
      clear H
      have H := H1
      clear H1
      obtain rfl := Option.some.inj H
      go_enter Try.func83, Try.ntmps83
      go_wp2_with (first | ((with_reducible refine gate_dst (N := 2) rfl ?_); refine box_event ?hg (N := 2) ?hd (cs := #[.int .i64 a0_0, .int .i64 a0_1, .int .i64 a0_2, .bool a0_3]) (t := 128) ?hr ?_; (case hd => rfl); (case hg => rfl); (case hr => first | (go_simp; done) | (go_simp; rfl)); intro gb180 hg w46 hbox hb; have n0_ := Aside0.mk (below_step (by repeat (first | (with_reducible first | exact HB.out | apply below_alloc | apply pw_below_drewN | apply below_drew1) | exact HB.out)) hb); have n1_ := Aside0.mk (hbox); have n2_ := Aside0.mk ((by rw [hg]; exact (below_size (by repeat (first | (with_reducible first | exact HB.out | apply below_alloc | apply pw_below_drewN | apply below_drew1) | exact HB.out))) : w.heap.size ≤ gb180)); have n3_ := Aside0.mk ((by rw [hg]; exact (below_size (by repeat (first | (with_reducible first | exact HB.out | apply below_alloc | apply pw_below_drewN | apply below_drew1) | exact HB.out))) : w.heap.size ≤ gb180)); clear HB; have HB := n0_; have BK180 := n1_; have GW180 := n2_; have GE180 := n3_; clear n0_ n1_ n2_ n3_; clear hb hbox hg) | ((with_reducible refine gate_dst (N := 3) rfl ?_); refine box_event ?hg (N := 3) ?hd (cs := #[.int .i64 a1_0, .int .i64 a1_1, .int .i64 a1_2, .bool a1_3]) (t := 128) ?hr ?_; (case hd => rfl); (case hg => rfl); (case hr => first | (go_simp; done) | (go_simp; rfl)); intro gb181 hg w47 hbox hb; have n0_ := Aside0.mk (blk_below (g := gb180) (o := .cells #[.int .i64 a0_0, .int .i64 a0_1, .int .i64 a0_2, .bool a0_3] 128 (0, 0)) (by (with_reducible repeat (first | refine blk_drewN ?_ _ | refine blk_drew ?_ | refine blk_alloc ?_ _)); exact BK180.out) hb); have n1_ := Aside0.mk (below_step (by repeat (first | (with_reducible first | exact HB.out | apply below_alloc | apply pw_below_drewN | apply below_drew1 | refine below_set ?_ GE180.out) | exact HB.out)) hb); have n2_ := Aside0.mk (hbox); have n3_ := Aside0.mk ((by rw [hg]; exact (below_size (by repeat (first | (with_reducible first | exact HB.out | apply below_alloc | apply pw_below_drewN | apply below_drew1 | refine below_set ?_ GE180.out) | exact HB.out))) : w.heap.size ≤ gb181)); have n4_ := Aside0.mk ((by rw [hg]; exact (below_size (by repeat (first | (with_reducible first | exact HB.out | apply below_alloc | apply pw_below_drewN | apply below_drew1 | refine below_set ?_ GE180.out) | exact HB.out))) : w.heap.size ≤ gb181)); have n5_ := Aside0.mk ((by rw [hg]; exact Nat.ne_of_lt (blk_lt (g := gb180) (o := .cells #[.int .i64 a0_0, .int .i64 a0_1, .int .i64 a0_2, .bool a0_3] 128 (0, 0)) (by (with_reducible repeat (first | refine blk_drewN ?_ _ | refine blk_drew ?_ | refine blk_alloc ?_ _)); exact BK180.out)) : gb180 ≠ gb181)); have n6_ := Aside0.mk ((by rw [hg]; exact Nat.ne_of_gt (blk_lt (g := gb180) (o := .cells #[.int .i64 a0_0, .int .i64 a0_1, .int .i64 a0_2, .bool a0_3] 128 (0, 0)) (by (with_reducible repeat (first | refine blk_drewN ?_ _ | refine blk_drew ?_ | refine blk_alloc ?_ _)); exact BK180.out)) : gb181 ≠ gb180)); clear BK180; clear HB; have BK180 := n0_; have HB := n1_; have BK181 := n2_; have GW181 := n3_; have GE181 := n4_; have NB180_181 := n5_; have NB181_180 := n6_; clear n0_ n1_ n2_ n3_ n4_ n5_ n6_; clear hb hbox hg; have hnb48 := NB180_181.out; have hnc48 := NB181_180.out; have hcz49_0 : w47.cell? ⟨gb180, 0, none⟩ = some (.int .i64 a0_0) := (blk_cell BK180.out 0).trans rfl; have hcz49_1 : w47.cell? ⟨gb180, 1, none⟩ = some (.int .i64 a0_1) := (blk_cell BK180.out 1).trans rfl; have hcz49_2 : w47.cell? ⟨gb180, 2, none⟩ = some (.int .i64 a0_2) := (blk_cell BK180.out 2).trans rfl; have hcz49_3 : w47.cell? ⟨gb180, 3, none⟩ = some (.bool a0_3) := (blk_cell BK180.out 3).trans rfl; have hfz49_0 := blk_frozen BK180.out 0; have hfz49_1 := blk_frozen BK180.out 1; have hfz49_2 := blk_frozen BK180.out 2; have hfz49_3 := blk_frozen BK180.out 3) | ((with_reducible refine gate_callee (f := 82) rfl ?_); refine goesL_ (some 6) rfl rfl Try.func82 (by kernel_rfl) rfl #[.agg #[.int .i64 a0_0, .int .i64 a0_1, .int .i64 a0_2, .bool a0_3]] rfl (by (try simp only [List.map_toArray, List.map_cons, List.map_nil]); first | done | rfl | (simp only [List.length_drop, List.length_take]; rfl)) ?_; (with_reducible refine (clock_plain.calls a0_0 a0_1 a0_2 a0_3 true _ A3.out).mono ?_); rintro e w50 ⟨rfl, hb⟩; refine ⟨_, rfl, ?_⟩; have n0_ := Aside0.mk (blk_below (g := gb180) (o := .cells #[.int .i64 a0_0, .int .i64 a0_1, .int .i64 a0_2, .bool a0_3] 128 (0, 0)) (by (with_reducible repeat (first | refine blk_drewN ?_ _ | refine blk_drew ?_ | refine blk_alloc ?_ _)); exact BK180.out) hb); have n1_ := Aside0.mk (blk_below (g := gb181) (o := .cells #[.int .i64 a1_0, .int .i64 a1_1, .int .i64 a1_2, .bool a1_3] 128 (0, 0)) (by (with_reducible repeat (first | refine blk_drewN ?_ _ | refine blk_drew ?_ | refine blk_alloc ?_ _)); exact BK181.out) hb); have n2_ := Aside0.mk (below_step (by repeat (first | (with_reducible first | exact HB.out | apply below_alloc | apply pw_below_drewN | apply below_drew1 | refine below_set ?_ GE180.out | refine below_set ?_ GE181.out) | exact HB.out)) hb); clear BK180; clear BK181; clear HB; have BK180 := n0_; have BK181 := n1_; have HB := n2_; clear n0_ n1_ n2_; (try clear hb); (try clear hb2); (try clear hk); (try clear hi); have hcz51_0 : w50.cell? ⟨gb181, 0, none⟩ = some (.int .i64 a1_0) := (blk_cell BK181.out 0).trans rfl; have hcz51_1 : w50.cell? ⟨gb181, 1, none⟩ = some (.int .i64 a1_1) := (blk_cell BK181.out 1).trans rfl; have hcz51_2 : w50.cell? ⟨gb181, 2, none⟩ = some (.int .i64 a1_2) := (blk_cell BK181.out 2).trans rfl; have hcz51_3 : w50.cell? ⟨gb181, 3, none⟩ = some (.bool a1_3) := (blk_cell BK181.out 3).trans rfl; have hfz51_0 := blk_frozen BK181.out 0; have hfz51_1 := blk_frozen BK181.out 1; have hfz51_2 := blk_frozen BK181.out 2; have hfz51_3 := blk_frozen BK181.out 3) | (go_at_call 82; (with_reducible refine (clock_plain.calls a1_0 a1_1 a1_2 a1_3 false _ A5.out).mono ?_); rintro e w52 ⟨rfl, hb⟩; have n0_ := Aside0.mk (blk_below (g := gb180) (o := .cells #[.int .i64 a0_0, .int .i64 a0_1, .int .i64 a0_2, .bool a0_3] 128 (0, 0)) (by (with_reducible repeat (first | refine blk_drewN ?_ _ | refine blk_drew ?_ | refine blk_alloc ?_ _)); exact BK180.out) hb); have n1_ := Aside0.mk (blk_below (g := gb181) (o := .cells #[.int .i64 a1_0, .int .i64 a1_1, .int .i64 a1_2, .bool a1_3] 128 (0, 0)) (by (with_reducible repeat (first | refine blk_drewN ?_ _ | refine blk_drew ?_ | refine blk_alloc ?_ _)); exact BK181.out) hb); have n2_ := Aside0.mk (below_step (by repeat (first | (with_reducible first | exact HB.out | apply below_alloc | apply pw_below_drewN | apply below_drew1 | refine below_set ?_ GE180.out | refine below_set ?_ GE181.out) | exact HB.out)) hb); clear BK180; clear BK181; clear HB; have BK180 := n0_; have BK181 := n1_; have HB := n2_; clear n0_ n1_ n2_; (try clear hb); (try clear hb2); (try clear hk); (try clear hi)))
      go_ret
      exact ⟨by first | rfl | (simp [errW_none, errW_some] <;> rfl) | (simp [*, errW_none, errW_some] <;> rfl), by repeat (first | (with_reducible first | exact HB.out | apply below_alloc | apply pw_below_drewN | apply below_drew1 | refine below_set ?_ GE180.out | refine below_set ?_ GE181.out) | exact HB.out)⟩
  · replace c4 := Bool.eq_false_iff.mpr c4
    subst c4
    have H1 : (some false) = some r := by rw [if_neg (show ¬ (false = true) by decide)] at H; exact H
    clear H
    have H := H1
    clear H1
    obtain rfl := Option.some.inj H
    go_enter Try.func83, Try.ntmps83
    go_wp2_with (first | ((with_reducible refine gate_dst (N := 2) rfl ?_); refine box_event ?hg (N := 2) ?hd (cs := #[.int .i64 a0_0, .int .i64 a0_1, .int .i64 a0_2, .bool a0_3]) (t := 128) ?hr ?_; (case hd => rfl); (case hg => rfl); (case hr => first | (go_simp; done) | (go_simp; rfl)); intro gb180 hg w53 hbox hb; have n0_ := Aside0.mk (below_step (by repeat (first | (with_reducible first | exact HB.out | apply below_alloc | apply pw_below_drewN | apply below_drew1) | exact HB.out)) hb); have n1_ := Aside0.mk (hbox); have n2_ := Aside0.mk ((by rw [hg]; exact (below_size (by repeat (first | (with_reducible first | exact HB.out | apply below_alloc | apply pw_below_drewN | apply below_drew1) | exact HB.out))) : w.heap.size ≤ gb180)); have n3_ := Aside0.mk ((by rw [hg]; exact (below_size (by repeat (first | (with_reducible first | exact HB.out | apply below_alloc | apply pw_below_drewN | apply below_drew1) | exact HB.out))) : w.heap.size ≤ gb180)); clear HB; have HB := n0_; have BK180 := n1_; have GW180 := n2_; have GE180 := n3_; clear n0_ n1_ n2_ n3_; clear hb hbox hg) | ((with_reducible refine gate_dst (N := 3) rfl ?_); refine box_event ?hg (N := 3) ?hd (cs := #[.int .i64 a1_0, .int .i64 a1_1, .int .i64 a1_2, .bool a1_3]) (t := 128) ?hr ?_; (case hd => rfl); (case hg => rfl); (case hr => first | (go_simp; done) | (go_simp; rfl)); intro gb181 hg w54 hbox hb; have n0_ := Aside0.mk (blk_below (g := gb180) (o := .cells #[.int .i64 a0_0, .int .i64 a0_1, .int .i64 a0_2, .bool a0_3] 128 (0, 0)) (by (with_reducible repeat (first | refine blk_drewN ?_ _ | refine blk_drew ?_ | refine blk_alloc ?_ _)); exact BK180.out) hb); have n1_ := Aside0.mk (below_step (by repeat (first | (with_reducible first | exact HB.out | apply below_alloc | apply pw_below_drewN | apply below_drew1 | refine below_set ?_ GE180.out) | exact HB.out)) hb); have n2_ := Aside0.mk (hbox); have n3_ := Aside0.mk ((by rw [hg]; exact (below_size (by repeat (first | (with_reducible first | exact HB.out | apply below_alloc | apply pw_below_drewN | apply below_drew1 | refine below_set ?_ GE180.out) | exact HB.out))) : w.heap.size ≤ gb181)); have n4_ := Aside0.mk ((by rw [hg]; exact (below_size (by repeat (first | (with_reducible first | exact HB.out | apply below_alloc | apply pw_below_drewN | apply below_drew1 | refine below_set ?_ GE180.out) | exact HB.out))) : w.heap.size ≤ gb181)); have n5_ := Aside0.mk ((by rw [hg]; exact Nat.ne_of_lt (blk_lt (g := gb180) (o := .cells #[.int .i64 a0_0, .int .i64 a0_1, .int .i64 a0_2, .bool a0_3] 128 (0, 0)) (by (with_reducible repeat (first | refine blk_drewN ?_ _ | refine blk_drew ?_ | refine blk_alloc ?_ _)); exact BK180.out)) : gb180 ≠ gb181)); have n6_ := Aside0.mk ((by rw [hg]; exact Nat.ne_of_gt (blk_lt (g := gb180) (o := .cells #[.int .i64 a0_0, .int .i64 a0_1, .int .i64 a0_2, .bool a0_3] 128 (0, 0)) (by (with_reducible repeat (first | refine blk_drewN ?_ _ | refine blk_drew ?_ | refine blk_alloc ?_ _)); exact BK180.out)) : gb181 ≠ gb180)); clear BK180; clear HB; have BK180 := n0_; have HB := n1_; have BK181 := n2_; have GW181 := n3_; have GE181 := n4_; have NB180_181 := n5_; have NB181_180 := n6_; clear n0_ n1_ n2_ n3_ n4_ n5_ n6_; clear hb hbox hg; have hnb55 := NB180_181.out; have hnc55 := NB181_180.out; have hcz56_0 : w54.cell? ⟨gb180, 0, none⟩ = some (.int .i64 a0_0) := (blk_cell BK180.out 0).trans rfl; have hcz56_1 : w54.cell? ⟨gb180, 1, none⟩ = some (.int .i64 a0_1) := (blk_cell BK180.out 1).trans rfl; have hcz56_2 : w54.cell? ⟨gb180, 2, none⟩ = some (.int .i64 a0_2) := (blk_cell BK180.out 2).trans rfl; have hcz56_3 : w54.cell? ⟨gb180, 3, none⟩ = some (.bool a0_3) := (blk_cell BK180.out 3).trans rfl; have hfz56_0 := blk_frozen BK180.out 0; have hfz56_1 := blk_frozen BK180.out 1; have hfz56_2 := blk_frozen BK180.out 2; have hfz56_3 := blk_frozen BK180.out 3) | ((with_reducible refine gate_callee (f := 82) rfl ?_); refine goesL_ (some 6) rfl rfl Try.func82 (by kernel_rfl) rfl #[.agg #[.int .i64 a0_0, .int .i64 a0_1, .int .i64 a0_2, .bool a0_3]] rfl (by (try simp only [List.map_toArray, List.map_cons, List.map_nil]); first | done | rfl | (simp only [List.length_drop, List.length_take]; rfl)) ?_; (with_reducible refine (clock_plain.calls a0_0 a0_1 a0_2 a0_3 false _ A3.out).mono ?_); rintro e w57 ⟨rfl, hb⟩; refine ⟨_, rfl, ?_⟩; have n0_ := Aside0.mk (blk_below (g := gb180) (o := .cells #[.int .i64 a0_0, .int .i64 a0_1, .int .i64 a0_2, .bool a0_3] 128 (0, 0)) (by (with_reducible repeat (first | refine blk_drewN ?_ _ | refine blk_drew ?_ | refine blk_alloc ?_ _)); exact BK180.out) hb); have n1_ := Aside0.mk (blk_below (g := gb181) (o := .cells #[.int .i64 a1_0, .int .i64 a1_1, .int .i64 a1_2, .bool a1_3] 128 (0, 0)) (by (with_reducible repeat (first | refine blk_drewN ?_ _ | refine blk_drew ?_ | refine blk_alloc ?_ _)); exact BK181.out) hb); have n2_ := Aside0.mk (below_step (by repeat (first | (with_reducible first | exact HB.out | apply below_alloc | apply pw_below_drewN | apply below_drew1 | refine below_set ?_ GE180.out | refine below_set ?_ GE181.out) | exact HB.out)) hb); clear BK180; clear BK181; clear HB; have BK180 := n0_; have BK181 := n1_; have HB := n2_; clear n0_ n1_ n2_; (try clear hb); (try clear hb2); (try clear hk); (try clear hi)))
    go_ret
    exact ⟨by first | rfl | (simp [errW_none, errW_some] <;> rfl) | (simp [*, errW_none, errW_some] <;> rfl), by repeat (first | (with_reducible first | exact HB.out | apply below_alloc | apply pw_below_drewN | apply below_drew1 | refine below_set ?_ GE180.out | refine below_set ?_ GE181.out) | exact HB.out)⟩
open Go.RowKit Go.Maps Go.Proofs.Ytlcnckbmolefpaa.CK Go.Proofs.YtlcnckbmolefpaaW.PrintWords Go.Proofs.YtlcnckbmolefpaaW.PrintLast Go.Proofs.YtlcnckbmolefpaaW.PrintMore
def plainE (e : Ev) : Bool := decide (e.kind = 2) || decide (e.kind = 3)
def clashE (a b : Ev) : Bool := plainE a && plainE b && decide (a.at_ = b.at_) && !decide (a.who = b.who) && (decide (a.kind = 3) || decide (b.kind = 3))
theorem plain_eq (e : S128) : clock_plain.f e.f0 e.f1 e.f2 e.f3 = some (plainE (ev e)) := by
  unfold clock_plain.f plainE ev
  by_cases h : e.f1 = 2
  · rw [if_pos h]; simp [h]
  · rw [if_neg h]; simp [h]
    cases h3 : (e.f1 == 3) <;> simp_all
theorem clash_eq (a b : S128) : clock_clash.f a.f0 a.f1 a.f2 a.f3 b.f0 b.f1 b.f2 b.f3 = some (clashE (ev a) (ev b)) := by
  unfold clock_clash.f
  rw [plain_eq, Option.bind_some]
  unfold clashE
  cases plainE (ev a)
  · simp
  · rw [if_pos rfl, plain_eq, Option.bind_some]
    cases plainE (ev b)
    · simp
    · rw [if_pos rfl]
      by_cases h2 : a.f2 = b.f2
      · rw [if_pos h2]
        by_cases h0 : a.f0 = b.f0
        · rw [if_pos h0]; simp [ev, h0]
        · rw [if_neg h0]
          by_cases h3 : a.f1 = 3
          · rw [if_pos h3]; simp [ev, h0, h2, h3]
          · rw [if_neg h3]; simp [ev, h0, h2, h3]; cases h4 : (b.f1 == 3) <;> simp_all
      · rw [if_neg h2]; simp [ev, h2]
section
variable (g : Nat → Ev)
def meets (j i : Nat) : Bool := clashE (g i) (g j) && !bef g i j
def raceAt (j : Nat) : Option Nat := (List.range j).find? (meets g j)
def raceFrom : Nat → Nat → Int × Int
  | _, 0 => (-1, -1)
  | j, d + 1 => match raceAt g j with
    | some i => ((i : Int), (j : Int))
    | none => raceFrom (j + 1) d
def boxAt (j : Nat) (a : Int) : List Nat := (List.range j).filter fun i => plainE (g i) && decide ((g i).at_ = a)
end
theorem boxAt_next {g : Nat → Ev} {j : Nat} {a : Int} : boxAt g (j + 1) a = if plainE (g j) = true ∧ (g j).at_ = a then boxAt g j a ++ [j] else boxAt g j a := by
  unfold boxAt
  rw [List.range_succ, List.filter_append]
  by_cases h : plainE (g j) = true ∧ (g j).at_ = a
  · rw [if_pos h]; simp [h.1, h.2]
  · rw [if_neg h]
    have : (plainE (g j) && decide ((g j).at_ = a)) = false := by
      cases hp : plainE (g j)
      · simp
      · simp; exact fun q => h ⟨hp, q⟩
    simp [this]
theorem boxAt_lt {g : Nat → Ev} {j i : Nat} {a : Int} (h : i ∈ boxAt g j a) : i < j := List.mem_range.1 (List.mem_filter.1 h).1
theorem boxAt_len {g : Nat → Ev} {j : Nat} {a : Int} : (boxAt g j a).length ≤ j := by
  have := List.length_filter_le (fun i => plainE (g i) && decide ((g i).at_ = a)) (List.range j)
  rw [List.length_range] at this
  exact this
theorem find_filter {α : Type} {p q : α → Bool} (h : ∀ x, p x = true → q x = true) : ∀ l : List α, (l.filter q).find? p = l.find? p
  | [] => rfl
  | x :: l => by
    cases hq : q x
    · have hp : p x = false := by cases hp : p x; rfl; rw [h x hp] at hq; cases hq
      simp [hq, hp, find_filter h l]
    · simp [hq, List.find?_cons, find_filter h l]
theorem raceAt_box {g : Nat → Ev} {j : Nat} : raceAt g j = (boxAt g j (g j).at_).find? (meets g j) := by
  unfold boxAt raceAt
  rw [find_filter]
  intro i h
  unfold meets clashE at h
  simp only [Bool.and_eq_true, decide_eq_true_iff] at h
  rw [h.1.1.1.1.1, decide_eq_true h.1.1.1.2]; rfl
theorem raceAt_not {g : Nat → Ev} {j : Nat} (h : plainE (g j) = false) : raceAt g j = none := by
  unfold raceAt
  rw [List.find?_eq_none]
  intro i _
  unfold meets clashE
  rw [h]
  simp
def datIs (d : DataW Unit) (zs : List Int) : Prop := (d = .nil ∧ zs = []) ∨ d = .slice (Go.ChangeShapes.lits .i64 zs) []
theorem lits_inj {a b : List Int} (h : (Go.ChangeShapes.lits .i64 a : List (DataW Unit)) = Go.ChangeShapes.lits .i64 b) : a = b := by
  unfold Go.ChangeShapes.lits at h
  exact (List.map_inj_right (fun x y e => by injection e with e; injection e)).1 h
theorem datIs_inj {d : DataW Unit} {a b : List Int} (h : datIs d a) (k : datIs d b) : a = b := by
  rcases h with ⟨h1, h2⟩ | h1
  · rcases k with ⟨_, k2⟩ | k1
    · rw [h2, k2]
    · rw [h1] at k1; cases k1
  · rcases k with ⟨k1, k2⟩ | k1
    · rw [h1] at k1; cases k1
    · rw [h1] at k1; injection k1 with k1; exact lits_inj k1
def GM (w : World) (base b n : Nat) (f : Int → List Nat) : Prop := ∃ D : DataW Unit, w.ownsGroups Try.prog 3 base 3 .i64 b n D ∧ ∀ a : Int, datIs (D.atKey (.int .i64 a) .nil) ((f a).map Int.ofNat)
theorem GM.made (w : World) : GM (w.alloc (.map #[] 0)) (w.heap.size + 1) w.heap.size 0 (fun _ => []) := ⟨.map [], World.ownsGroups_made w Try.prog 3 3 .i64, fun a => Or.inl ⟨rfl, rfl⟩⟩
theorem GM.mono {w : World} {base b n n' : Nat} {f : Int → List Nat} (h : GM w base b n f) (hn : n ≤ n') : GM w base b n' f := by
  obtain ⟨D, ⟨es, cl, h1, h2, h3, h4, h5, h6, h7⟩, hr⟩ := h
  exact ⟨D, ⟨es, cl, h1, h2, Nat.le_trans h3 hn, h4, h5, fun x hx zs ho => Nat.le_trans (h6 x hx zs ho) hn, h7⟩, hr⟩
theorem GM.below {w w' : World} {base b n : Nat} {f : Int → List Nat} (h : GM w base b n f) (hb : Below w.heap.size w w') : GM w' base b n f := by
  obtain ⟨D, h, hr⟩ := h
  refine ⟨D, h.kept (grown_of_below hb none) (by simp) (fun es cl hm x hx => ?_), hr⟩
  cases x.val.ownBlock
  · exact Or.inl rfl
  · exact Or.inr (by simp)
theorem GM.at_ {w : World} {base b n : Nat} {f : Int → List Nat} (h : GM w base b n f) (hn : n < maxLen) {a : Int} (hw : (Lit.int .i64 a).wf = true) : ∃ A c, (Instr.lookup 132 (.map (some b)) (.int .i64 a) false).run Try.prog w = .ok (.slice A (f a).length c) w ∧ w.ownsInts base 3 .i64 (.slice A (f a).length c) ((f a).map Int.ofNat) ∧ (f a).length ≤ c ∧
    ∀ (w1 : World) (v' : Value) (x : Nat), w.grownBy w1 (Value.slice A (f a).length c).ownBlock → w1.ownsInts base 3 .i64 v' ((f a).map Int.ofNat ++ [(x : Int)]) → (v'.ownBlock = (Value.slice A (f a).length c).ownBlock ∨ ∃ g, v'.ownBlock = some g ∧ w.heap.size ≤ g) →
      ∃ w2, (Instr.mapUpdate 132 (.map (some b)) (.int .i64 a) v').run Try.prog w1 = .ok () w2 ∧ GM w2 base b (n + 1) (upd f a (f a ++ [x])) ∧ w1.grownBy w2 (some b) := by
  obtain ⟨D, h, hr⟩ := h
  have hm : IsMap D := by obtain ⟨es, cl, _, _, _, hD, _⟩ := h; exact ⟨_, hD⟩
  obtain ⟨v, zs, hrun, hat, ho, hlen, hback⟩ := h.at (int_keyed Try.underlying3) Try.underlying132 (Try.zeroValue25 w) hn (keyOf_int_mk Try.underlying3 hw)
  have e1 : zs = (f a).map Int.ofNat := datIs_inj (d := D.atKey (.int .i64 a) .nil) (by rw [hat]; exact ho.datum) (hr a)
  obtain ⟨A, c, rfl⟩ := own_slice ho.1
  subst e1
  have hle := own_le ho.1
  simp only [List.length_map] at *
  refine ⟨A, c, hrun, ho, hle, fun w1 v' x hg ho' hloc => ?_⟩
  obtain ⟨w2, hrun2, hg2, hgr2⟩ := hback w1 v' _ hg ho' (by simp; omega) hloc
  refine ⟨w2, hrun2, ⟨_, hg2, fun y => ?_⟩, hgr2⟩
  by_cases e : y = a
  · subst e
    rw [atKey_put_same (k := .int .i64 y) hm trivial]
    show datIs _ ((if y = y then f y ++ [x] else f y).map Int.ofNat)
    rw [if_pos rfl, List.map_append]
    exact ho'.datum
  · rw [atKey_put_other (keyI_ne e)]
    show datIs _ ((if y = a then f a ++ [x] else f y).map Int.ofNat)
    rw [if_neg e]
    exact hr y
set_option maxRecDepth 100000 in
theorem GM.look_same {w w' : World} {base b n : Nat} {f : Int → List Nat} (h : GM w base b n f) {a : Int} (hw : (Lit.int .i64 a).wf = true) {v : Value} (hrun : (Instr.lookup 132 (.map (some b)) (.int .i64 a) false).run Try.prog w = .ok v w) (hbb : w'.heap[b]? = w.heap[b]?) : (Instr.lookup 132 (.map (some b)) (.int .i64 a) false).run Try.prog w' = .ok v w' := by
  obtain ⟨D, ⟨es, cl, hb, F, _⟩, _⟩ := h
  have K := int_keyed (P := Try.prog) (k := 3) Try.underlying3
  have hk := keyOf_int_mk (P := Try.prog) (k := 3) Try.underlying3 hw
  rcases Maps.fit_look false K Try.underlying132 (Try.zeroValue25 w) hb F hk with ⟨h1, h2, _⟩ | ⟨e0, y, h1, h2, h3, _⟩
  · rw [hrun] at h1
    injection h1 with h1 _
    rcases Maps.fit_look false K Try.underlying132 (Try.zeroValue25 w') (hbb.trans hb) F hk with ⟨g1, g2, _⟩ | ⟨e1, y1, g1, g2, g3, _⟩
    · rw [g1, h1]
    · exact absurd g2 (h2 e1 g1)
  · rw [hrun] at h3
    injection h3 with h3 _
    rcases Maps.fit_look false K Try.underlying132 (Try.zeroValue25 w') (hbb.trans hb) F hk with ⟨g1, g2, _⟩ | ⟨e1, y1, g1, g2, g3, _⟩
    · exact absurd h2 (g2 e0 h1)
    · rw [g3, h3]
      have := entry_eq_of_key ((MapKept.stamped_iff es cl).1 F.stamped).2.2 h1 g1 (h2.trans g2.symm)
      rw [this]
theorem GM.map_at {w : World} {base b n : Nat} {f : Int → List Nat} (h : GM w base b n f) : ∃ es cl, w.heap[b]? = some (.map es cl) := by
  obtain ⟨D, ⟨es, cl, hb, _⟩, _⟩ := h; exact ⟨es, cl, hb⟩
theorem race_row {w w' : World} {be base : Nat} {cs : Array Value} {v : Value} {zs : List Int} (hb : w.heap[be]? = some (.cells cs 128 (0, 0))) (ho : w.ownsInts base 3 .i64 v zs) (hg : w.grownBy w' v.ownBlock) : w'.heap[be]? = some (.cells cs 128 (0, 0)) := by
  have hlt : be < w.heap.size := (Array.getElem?_eq_some_iff.1 hb).1
  refine (hg.block be hlt (fun q => ?_)).trans hb
  obtain ⟨cells, hc⟩ := own_typed ho.1 be q.symm
  rw [hb] at hc
  injection hc with hc
  injection hc with _ hc _
  cases hc
theorem race_map {w w7 w8 : World} {be bb : Nat} {cs : Array Value} {es : Array MapEntry} {cl : Nat} (hm : w.heap[bb]? = some (.map es cl)) (hb : w.heap[be]? = some (.cells cs 128 (0, 0))) (h7 : w7.heap[be]? = some (.cells cs 128 (0, 0))) (hg : w7.grownBy w8 (some bb)) : w8.heap[be]? = some (.cells cs 128 (0, 0)) := by
  have hlt : be < w7.heap.size := (Array.getElem?_eq_some_iff.1 h7).1
  refine (hg.block be hlt (fun q => ?_)).trans h7
  injection q with q
  subst q
  rw [hm] at hb
  cases hb
theorem race_own {w w' : World} {base : Nat} {v v' : Value} {l : List Nat} {j : Int} (ho : w.ownsInts base 3 .i64 v (l.map Int.ofNat)) (hw : (Lit.int .i64 j).wf = true) (j0 : 0 ≤ j) (h : Kd.R (Kd.int .i64) 3 w' base (fun _ => True) v' (l.map Int.ofNat ++ [j])) : w'.ownsInts base 3 .i64 v' (l.map Int.ofNat ++ [((j.toNat : Nat) : Int)]) := by
  rw [show ((j.toNat : Nat) : Int) = j by omega]
  refine ⟨Kd.own_of_R h, fun z hz => ?_⟩
  rcases List.mem_append.1 hz with hz | hz
  · exact ho.2 z hz
  · rw [List.mem_singleton.1 hz]; exact hw
def clock_Race.f (l0 : List S128) : Option (Int × Int) := if evsB l0 = true then some (raceFrom (gl l0) 0 l0.length) else none
theorem race_none {g : Nat → Ev} {j d : Nat} (h : raceAt g j = none) : raceFrom g j (d + 1) = raceFrom g (j + 1) d := by show (match raceAt g j with | some i => _ | none => _) = _; rw [h]
theorem race_some {g : Nat → Ev} {j d i : Nat} (h : raceAt g j = some i) : raceFrom g j (d + 1) = ((i : Int), (j : Int)) := by show (match raceAt g j with | some i => _ | none => _) = _; rw [h]
theorem find_at {α : Type} {p : α → Bool} : ∀ (l : List α) (k : Nat) (x : α), l[k]? = some x → p x = true → (∀ m, m < k → ∀ y, l[m]? = some y → p y = false) → l.find? p = some x
  | y :: l, 0, x, h, hp, _ => by simp at h; subst h; simp [hp]
  | y :: l, k + 1, x, h, hp, hb => by
    have h0 := hb 0 (by omega) y rfl
    simp [h0]
    exact find_at l k x (by simpa using h) hp (fun m hm y hy => hb (m + 1) (by omega) y (by simpa using hy))
theorem find_no {α : Type} {p : α → Bool} {l : List α} (h : ∀ m, m < l.length → ∀ y, l[m]? = some y → p y = false) : l.find? p = none := by
  rw [List.find?_eq_none]
  intro x hx
  obtain ⟨m, hm, e⟩ := List.getElem_of_mem hx
  rw [h m hm x (by rw [List.getElem?_eq_getElem hm, e])]
  simp
theorem boxAt_upd {g : Nat → Ev} {j : Nat} (h : plainE (g j) = true) : upd (boxAt g j) (g j).at_ (boxAt g j (g j).at_ ++ [j]) = boxAt g (j + 1) := by
  funext a
  rw [boxAt_next]
  show (if a = (g j).at_ then _ else _) = _
  by_cases e : a = (g j).at_
  · rw [if_pos e, if_pos ⟨h, e.symm⟩, e]
  · rw [if_neg e, if_neg (fun q => e q.2.symm)]
theorem boxAt_same {g : Nat → Ev} {j : Nat} (h : plainE (g j) = false) : boxAt g j = boxAt g (j + 1) := by
  funext a
  rw [boxAt_next, if_neg (fun q => by rw [h] at q; exact absurd q.1 (by simp))]
theorem blk4 {w : World} {be : Nat} {e : S128} (hb : w.heap[be]? = some (.cells #[.int .i64 e.f0, .int .i64 e.f1, .int .i64 e.f2, .bool e.f3] 128 (0, 0))) : w.cell? ⟨be, 0, none⟩ = some (.int .i64 e.f0) ∧ w.cell? ⟨be, 1, none⟩ = some (.int .i64 e.f1) ∧ w.cell? ⟨be, 2, none⟩ = some (.int .i64 e.f2) ∧ w.cell? ⟨be, 3, none⟩ = some (.bool e.f3) := by
  refine ⟨?_, ?_, ?_, ?_⟩ <;> (rw [blk_cell hb]; rfl)
set_option maxHeartbeats 4000000 in
set_option maxRecDepth 100000 in
theorem clock_Race.calls (A0 : Option Addr) (c0 : Nat) (l0 : List S128) (r1 r2 : Int) (w : World) (hr0 : Kd.C k128 w A0 l0.length l0) (hc0 : l0.length ≤ c0) (h : clock_Race.f l0 = some (r1, r2)) :
    Calls Try.prog 28 #[.slice A0 l0.length c0] w fun e w' => e = .returned (.tuple #[.int .i64 r1, .int .i64 r2]) ∧ Below w.heap.size w w' := by
  unfold clock_Race.f at h
  by_cases hok : evsB l0 = true
  · rw [if_pos hok] at h
    obtain ⟨hl, hok⟩ := evsB_spec hok
    have HR := Aside0.mk (Option.some.inj h)
    have HOK := Aside0.mk hok
    have HC := Aside0.mk hr0
    have hmm := @run_makeMap Try.prog
    clear h hok hr0
    go_enter Try.func28, Try.ntmps28
    go_wp2_with (go_at_call 81; (with_reducible refine (walk_seen l0 A0 c0 _ HC.out hc0 hl HOK.out).mono ?_); rintro e_ w1 ⟨AS, cS, rfl, hs1, hb1⟩; have HS1 := Aside0.mk hs1; have HB1 := Aside0.mk hb1)
    go_loopw [15] (fun v15 wr => ∃ j : Int, v15 = .int .i64 j ∧ Aside0 (0 ≤ j ∧ j ≤ l0.length ∧ raceFrom (gl l0) j.toNat (l0.length - j.toNat) = (r1, r2)) ∧ Aside0 (GM wr (w1.heap.size + 1) w1.heap.size j.toNat (boxAt (gl l0) j.toNat)) ∧ Aside0 (Below w1.heap.size w1 wr)) (fun v15 _ => (l0.length - intOf v15).toNat)
    case atStart => exact ⟨0, rfl, ⟨by omega, by omega, HR.out⟩, ⟨GM.made w1⟩, ⟨(Below.refl _ _).alloc (Nat.le_refl _) _⟩⟩
    case round =>
      obtain ⟨j, rfl, HJ, HGM, HBW⟩ := hrel
      have j0 := HJ.out.1
      by_cases hlt : j < (l0.length : Int)
      · have hltb := decide_eq_true hlt
        have HCW := Aside0.mk (Kd.C_below (Kd.C_below HC.out HB1.out) HBW.out)
        obtain ⟨ad, rfl, hx0, hx1, hx2, hx3⟩ := at_T128 HCW.out j j0 hlt
        have HE := Aside0.mk (HOK.out _ (rd_mem j0 hlt))
        have HG := Aside0.mk (gl_rd l0 j)
        have HP := Aside0.mk (plain_eq (rd_T128 l0 j))
        go_upto_region 6 with fail
        have HA := Aside0.mk (below_alloc (Below.refl _ wr) (.cells #[.int .i64 (rd_T128 l0 j).f0, .int .i64 (rd_T128 l0 j).f1, .int .i64 (rd_T128 l0 j).f2, .bool (rd_T128 l0 j).f3] 128))
        have HEB := Aside0.mk (blk_new wr (.cells #[.int .i64 (rd_T128 l0 j).f0, .int .i64 (rd_T128 l0 j).f1, .int .i64 (rd_T128 l0 j).f2, .bool (rd_T128 l0 j).f3] 128))
        have HGM2 := Aside0.mk (HGM.out.below HA.out)
        have HBW2 := Aside0.mk (HBW.out.trans (HA.out.mono HBW.out.size))
        clear HCW HGM HBW HA hx0 hx1 hx2 hx3
        generalize wr.alloc (.cells #[.int .i64 (rd_T128 l0 j).f0, .int .i64 (rd_T128 l0 j).f1, .int .i64 (rd_T128 l0 j).f2, .bool (rd_T128 l0 j).f3] 128) = W1 at HEB HGM2 HBW2 ⊢
        generalize wr.heap.size = be at HEB ⊢
        generalize hee : rd_T128 l0 j = e at HE HG HP HEB ⊢
        obtain ⟨he0, he1, he2, he3⟩ := blk4 HEB.out
        cases hp : plainE (ev e) with
        | false =>
          have HPF := Aside0.mk hp
          go_wp2_with (first | (go_at_call 82; (with_reducible refine (clock_plain.calls _ _ _ _ _ _ HP.out).mono ?_); rintro e_ w2 ⟨rfl, hb2⟩))
          go_roundw
          case rel => exact ⟨j + 1, by go_num, ⟨by omega, by omega, by rw [show (j + 1).toNat = j.toNat + 1 by omega, ← race_none (raceAt_not (by rw [HG.out]; exact HPF.out)), show l0.length - (j.toNat + 1) + 1 = l0.length - j.toNat by omega]; exact HJ.out.2.2⟩, ⟨by rw [show (j + 1).toNat = j.toNat + 1 by omega, ← boxAt_same (by rw [HG.out]; exact HPF.out)]; exact (HGM2.out.below hb2).mono (Nat.le_succ _)⟩, ⟨HBW2.out.trans (hb2.mono HBW2.out.size)⟩⟩
          case measure => simp [intOf]; omega
        | true =>
          have HPT := Aside0.mk hp
          go_upto_region 7 with (first | (go_at_call 82; (with_reducible refine (clock_plain.calls _ _ _ _ _ _ HP.out).mono ?_); rintro e_ w2 ⟨rfl, hb2⟩))
          have HEB2 := Aside0.mk (blk_below HEB.out hb2)
          have HGM3 := Aside0.mk (HGM2.out.below hb2)
          have HBW3 := Aside0.mk (HBW2.out.trans (hb2.mono HBW2.out.size))
          clear HEB HGM2 HBW2 hb2 he0 he1 he2 he3
          obtain ⟨he0, he1, he2, he3⟩ := blk4 HEB2.out
          have hwf : (Lit.int .i64 e.f2).wf = true := WalkArith.wf_i64 (by have := HE.out.2; unfold in64 at this; omega)
          have HWF := Aside0.mk hwf
          obtain ⟨A, c, hrun, ho, hle, hback⟩ := HGM3.out.at_ (by unfold maxLen; omega) hwf
          have HBX : Aside0 (boxAt (gl l0) j.toNat e.f2 = boxAt (gl l0) j.toNat (gl l0 j.toNat).at_) := ⟨by rw [HG.out]; rfl⟩
          have hbl : (boxAt (gl l0) j.toNat e.f2).length ≤ 1000000 := by have := boxAt_len (g := gl l0) (j := j.toNat) (a := e.f2); omega
          generalize hbx : boxAt (gl l0) j.toNat e.f2 = BX at *
          have HRI : Aside0 (ReadsInt w2 .i64 A BX.length (BX.map Int.ofNat)) := ⟨by
            obtain ⟨A', c', e', hr⟩ := own_reads ho.1
            simp only [List.length_map] at e' hr
            injection e' with e1 e2 e3
            subst e1
            exact hr⟩
          clear hback ho hwf
          go_wp2
          go_loopw [28] (fun v28 wr => ∃ m : Int, v28 = .int .i64 m ∧ Aside0 (0 ≤ m ∧ m ≤ BX.length ∧ ∀ k, k < m.toNat → ∀ y, BX[k]? = some y → meets (gl l0) j.toNat y = false) ∧ Aside0 (Below w2.heap.size w2 wr)) (fun v28 _ => (BX.length - intOf v28).toNat)
          case atStart => exact ⟨0, rfl, ⟨by omega, by omega, fun k hk => by omega⟩, ⟨Below.refl _ _⟩⟩
          case round =>
            obtain ⟨m, rfl, HM, HB⟩ := hrel
            have m0 := HM.out.1
            by_cases hmt : m < (BX.length : Int)
            · have hmtb := decide_eq_true hmt
              obtain ⟨am, hA, hxm⟩ := (HRI.out.below HB.out).at_ m m0 (by simpa using hmt)
              subst hA
              obtain ⟨iN, hiN⟩ : ∃ iN, BX[m.toNat]? = some iN := ⟨_, List.getElem?_eq_getElem (by omega : m.toNat < BX.length)⟩
              have hrd : rd (BX.map Int.ofNat) m = (iN : Int) := by unfold rd; rw [List.getD_eq_getElem?_getD, List.getElem?_map, hiN]; rfl
              have hiL : iN < j.toNat := boxAt_lt (g := gl l0) (j := j.toNat) (a := e.f2) (by rw [hbx]; exact List.mem_of_getElem? hiN)
              have HIN := Aside0.mk hiN
              rw [hrd] at hxm
              obtain ⟨x, hx⟩ : ∃ x : Int, x = (iN : Int) := ⟨_, rfl⟩
              rw [← hx] at hxm
              have x0 : 0 ≤ x := by omega
              have x1 : x < (l0.length : Int) := by omega
              have xN : x.toNat = iN := by omega
              clear hiN hrd
              have HCW := Aside0.mk (Kd.C_below (Kd.C_below (Kd.C_below HC.out HB1.out) HBW3.out) HB.out)
              have HSW := Aside0.mk ((HS1.out.below HBW3.out).below HB.out)
              obtain ⟨ad', hA', hx0, hx1, hx2, hx3⟩ := at_T128 HCW.out x x0 x1
              obtain rfl : ad = ad' := by injection hA'
              have HCL := Aside0.mk (clash_eq (rd_T128 l0 x) e)
              have HGI : Aside0 (gl l0 iN = ev (rd_T128 l0 x)) := ⟨by rw [← xN]; exact gl_rd l0 x⟩
              generalize rd_T128 l0 x = ei at hx0 hx1 hx2 hx3 HCL HGI
              obtain ⟨hf0, hf1, hf2, hf3⟩ := blk4 (blk_below HEB2.out HB.out)
              have hmk : ∀ w', Below wr.heap.size wr w' → (fun w' => w'.cell? (ad.add (x.toNat * 4)) = some (.int .i64 ei.f0) ∧ w'.cell? ⟨(ad.add (x.toNat * 4)).block, (ad.add (x.toNat * 4)).off + 1, none⟩ = some (.int .i64 ei.f1) ∧ w'.cell? ⟨(ad.add (x.toNat * 4)).block, (ad.add (x.toNat * 4)).off + 2, none⟩ = some (.int .i64 ei.f2) ∧ w'.cell? ⟨(ad.add (x.toNat * 4)).block, (ad.add (x.toNat * 4)).off + 3, none⟩ = some (.bool ei.f3) ∧ w'.cell? ⟨be, 0, none⟩ = some (.int .i64 e.f0) ∧ w'.cell? ⟨be, 1, none⟩ = some (.int .i64 e.f1) ∧ w'.cell? ⟨be, 2, none⟩ = some (.int .i64 e.f2) ∧ w'.cell? ⟨be, 3, none⟩ = some (.bool e.f3)) w' := fun w' hb => ⟨pw_cell_below hb hx0, pw_cell_below hb hx1, pw_cell_below hb hx2, pw_cell_below hb hx3, pw_cell_below hb hf0, pw_cell_below hb hf1, pw_cell_below hb hf2, pw_cell_below hb hf3⟩
              have HMK := Aside0.mk hmk
              clear hmk
              have HX := Aside0.mk hx
              have HXN := Aside0.mk xN
              clear hx xN
              have q0 := eq_true x0
              have q1 := eq_true x1
              cases hcl : clashE (ev ei) (ev e) with
              | false =>
                have HCT : Aside0 (clock_clash.f ei.f0 ei.f1 ei.f2 ei.f3 e.f0 e.f1 e.f2 e.f3 = some false) := ⟨by rw [HCL.out, hcl]⟩
                have HMJ : Aside0 (meets (gl l0) j.toNat iN = false) := ⟨by unfold meets; rw [HGI.out, HG.out, hcl]; rfl⟩
                have hHeld0 := HMK.out _ (below_drew (Below.refl _ wr))
                go_upto_region 10 with fail
                refine start_ (n := 14) (S := (fun w' => w'.cell? (ad.add (x.toNat * 4)) = some (.int .i64 ei.f0) ∧ w'.cell? ⟨(ad.add (x.toNat * 4)).block, (ad.add (x.toNat * 4)).off + 1, none⟩ = some (.int .i64 ei.f1) ∧ w'.cell? ⟨(ad.add (x.toNat * 4)).block, (ad.add (x.toNat * 4)).off + 2, none⟩ = some (.int .i64 ei.f2) ∧ w'.cell? ⟨(ad.add (x.toNat * 4)).block, (ad.add (x.toNat * 4)).off + 3, none⟩ = some (.bool ei.f3) ∧ w'.cell? ⟨be, 0, none⟩ = some (.int .i64 e.f0) ∧ w'.cell? ⟨be, 1, none⟩ = some (.int .i64 e.f1) ∧ w'.cell? ⟨be, 2, none⟩ = some (.int .i64 e.f2) ∧ w'.cell? ⟨be, 3, none⟩ = some (.bool e.f3))) (ds := []) #[false, false, false, false, false, false, false, false, false, false, false, false, false, false] (by kernel_rfl) rfl rfl hHeld0 (fun hHeld => ?_)
                refine pure_ (i := 0) (N := some 32) (v := ?_) (a' := ?_) #[true, false, false, false, false, false, false, false, false, false, false, false, false, false] rfl rfl (by kernel_rfl) (fun _ _ _ h => h) (Or.inl ⟨by rfl, ?_⟩) ?_ ?_
                rotate_left
                · intro w'
                  go_simp
                  with_reducible rfl
                rotate_left
                · simp only [Act.put, List.setIfInBounds_toArray, List.set_cons_zero, List.set_cons_succ]
                  rfl
                refine pure_ (i := 1) (N := some 33) (v := ?_) (a' := ?_) #[true, true, false, false, false, false, false, false, false, false, false, false, false, false] rfl rfl (by kernel_rfl) (fun _ _ _ h => h) (Or.inl ⟨by rfl, ?_⟩) ?_ ?_
                rotate_left
                · intro w'
                  go_simp
                  with_reducible rfl
                rotate_left
                · simp only [Act.put, List.setIfInBounds_toArray, List.set_cons_zero, List.set_cons_succ]
                  rfl
                refine pure_ (i := 2) (N := some 34) (v := ?_) (a' := ?_) #[true, true, true, false, false, false, false, false, false, false, false, false, false, false] rfl rfl (by kernel_rfl) (fun _ _ _ h => h) (Or.inl ⟨by rfl, ?_⟩) ?_ ?_
                rotate_left
                · intro w'
                  go_simp
                  with_reducible rfl
                rotate_left
                · simp only [Act.put, List.setIfInBounds_toArray, List.set_cons_zero, List.set_cons_succ]
                  rfl
                refine take_ (i := 3) (N := some 35) (v := ?_) (a' := ?_) #[true, true, true, true, false, false, false, false, false, false, false, false, false, false] rfl rfl (by kernel_rfl) (fun _ _ _ h => h) (Or.inl ⟨by rfl, ?_⟩) hHeld ?_ ?_
                rotate_left
                · rintro w' ⟨s0, s1, s2, s3, s4, s5, s6, s7⟩
                  go_simp
                  with_reducible rfl
                rotate_left
                · simp only [Act.put, List.setIfInBounds_toArray, List.set_cons_zero, List.set_cons_succ]
                  rfl
                refine take_ (i := 4) (N := some 36) (v := ?_) (a' := ?_) #[true, true, true, true, true, false, false, false, false, false, false, false, false, false] rfl rfl (by kernel_rfl) (fun _ _ _ h => h) (Or.inl ⟨by rfl, ?_⟩) hHeld ?_ ?_
                rotate_left
                · rintro w' ⟨s0, s1, s2, s3, s4, s5, s6, s7⟩
                  go_simp
                  with_reducible rfl
                rotate_left
                · simp only [Act.put, List.setIfInBounds_toArray, List.set_cons_zero, List.set_cons_succ]
                  rfl
                refine one_ (i := 5) (N := some 37) #[true, true, true, true, true, true, false, false, false, false, false, false, false, false] rfl rfl (by kernel_rfl) (by decide) (fun K hK => ?_)
                refine goes_ Try.func83 (by kernel_rfl) rfl #[.agg #[.int .i64 ei.f0, .int .i64 ei.f1, .int .i64 ei.f2, .bool ei.f3], .agg #[.int .i64 e.f0, .int .i64 e.f1, .int .i64 e.f2, .bool e.f3]] (by rfl) rfl rfl (by (try simp only [List.map_toArray, List.map_cons, List.map_nil]); first | done | rfl) ?_
                with_reducible refine (clock_clash.calls _ _ _ _ _ _ _ _ false _ HCT.out).mono ?_
                rintro e_ w3 ⟨rfl, hb3⟩
                refine ⟨_, rfl, ?_⟩
                have hB3 : Below wr.heap.size wr w3 := (below_drew (Below.refl _ wr)).trans (hb3.mono (Nat.le_refl _))
                have HB3 := Aside0.mk hB3
                refine hK.out _ _ (HMK.out _ hB3) (fun hHeld => ?_)
                clear hK K hB3 hb3
                refine norm_ (a' := ?_) ?_ ?_
                rotate_left
                · show Act.put _ (some 37) _ = _
                  simp only [Act.put, List.setIfInBounds_toArray, List.set_cons_zero, List.set_cons_succ]
                  rfl
                refine pure_ (i := 6) (N := some 38) (v := ?_) (a' := ?_) #[true, true, true, true, true, true, true, false, false, false, false, false, false, false] rfl rfl (by kernel_rfl) (fun _ _ _ h => h) (Or.inl ⟨by rfl, ?_⟩) ?_ ?_
                rotate_left
                · intro w'
                  go_simp
                  with_reducible rfl
                rotate_left
                · simp only [Act.put, List.setIfInBounds_toArray, List.set_cons_zero, List.set_cons_succ]
                  rfl
                refine pure_ (i := 7) (N := some 39) (v := undef) (a' := ?_) #[true, true, true, true, true, true, true, true, false, false, false, false, false, false] rfl rfl (by kernel_rfl) (fun _ _ _ h => h) (Or.inr ⟨by rfl, rfl⟩) ?_ ?_
                rotate_left
                · simp only [Act.put, List.setIfInBounds_toArray, List.set_cons_zero, List.set_cons_succ]
                  rfl
                refine pure_ (i := 8) (N := some 40) (v := undef) (a' := ?_) #[true, true, true, true, true, true, true, true, true, false, false, false, false, false] rfl rfl (by kernel_rfl) (fun _ _ _ h => h) (Or.inr ⟨by rfl, rfl⟩) ?_ ?_
                rotate_left
                · simp only [Act.put, List.setIfInBounds_toArray, List.set_cons_zero, List.set_cons_succ]
                  rfl
                refine pure_ (i := 9) (N := some 41) (v := undef) (a' := ?_) #[true, true, true, true, true, true, true, true, true, true, false, false, false, false] rfl rfl (by kernel_rfl) (fun _ _ _ h => h) (Or.inr ⟨by rfl, rfl⟩) ?_ ?_
                rotate_left
                · simp only [Act.put, List.setIfInBounds_toArray, List.set_cons_zero, List.set_cons_succ]
                  rfl
                refine pure_ (i := 10) (N := some 42) (v := undef) (a' := ?_) #[true, true, true, true, true, true, true, true, true, true, true, false, false, false] rfl rfl (by kernel_rfl) (fun _ _ _ h => h) (Or.inr ⟨by rfl, rfl⟩) ?_ ?_
                rotate_left
                · simp only [Act.put, List.setIfInBounds_toArray, List.set_cons_zero, List.set_cons_succ]
                  rfl
                refine pure_ (i := 11) (N := some 43) (v := undef) (a' := ?_) #[true, true, true, true, true, true, true, true, true, true, true, true, false, false] rfl rfl (by kernel_rfl) (fun _ _ _ h => h) (Or.inr ⟨by rfl, rfl⟩) ?_ ?_
                rotate_left
                · simp only [Act.put, List.setIfInBounds_toArray, List.set_cons_zero, List.set_cons_succ]
                  rfl
                refine pure_ (i := 12) (N := some 44) (v := undef) (a' := ?_) #[true, true, true, true, true, true, true, true, true, true, true, true, true, false] rfl rfl (by kernel_rfl) (fun _ _ _ h => h) (Or.inr ⟨by rfl, rfl⟩) ?_ ?_
                rotate_left
                · simp only [Act.put, List.setIfInBounds_toArray, List.set_cons_zero, List.set_cons_succ]
                  rfl
                refine pure_ (i := 13) (N := some 45) (v := ?_) (a' := ?_) #[true, true, true, true, true, true, true, true, true, true, true, true, true, true] rfl rfl (by kernel_rfl) (fun _ _ _ h => h) (Or.inl ⟨by rfl, ?_⟩) ?_ ?_
                rotate_left
                · intro w'
                  go_simp
                  with_reducible rfl
                rotate_left
                · simp only [Act.put, List.setIfInBounds_toArray, List.set_cons_zero, List.set_cons_succ]
                  rfl
                refine done_ (by kernel_rfl) ?_
                go_wp2
                go_roundw
                case rel => exact ⟨m + 1, by go_num, ⟨by omega, by omega, fun k hk y hy => by
                  by_cases hkm : k < m.toNat
                  · exact HM.out.2.2 k hkm y hy
                  · obtain rfl : k = m.toNat := by omega
                    rw [HIN.out] at hy
                    injection hy with hy
                    subst hy
                    exact HMJ.out⟩, ⟨HB.out.trans (HB3.out.mono HB.out.size)⟩⟩
                case measure => simp [intOf]; omega
              | true =>
                have HCT : Aside0 (clock_clash.f ei.f0 ei.f1 ei.f2 ei.f3 e.f0 e.f1 e.f2 e.f3 = some true) := ⟨by rw [HCL.out, hcl]⟩
                go_upto_region 10 with fail
                go_region_held3 (fun w' => w'.cell? (ad.add (x.toNat * 4)) = some (.int .i64 ei.f0) ∧ w'.cell? ⟨(ad.add (x.toNat * 4)).block, (ad.add (x.toNat * 4)).off + 1, none⟩ = some (.int .i64 ei.f1) ∧ w'.cell? ⟨(ad.add (x.toNat * 4)).block, (ad.add (x.toNat * 4)).off + 2, none⟩ = some (.int .i64 ei.f2) ∧ w'.cell? ⟨(ad.add (x.toNat * 4)).block, (ad.add (x.toNat * 4)).off + 3, none⟩ = some (.bool ei.f3) ∧ w'.cell? ⟨be, 0, none⟩ = some (.int .i64 e.f0) ∧ w'.cell? ⟨be, 1, none⟩ = some (.int .i64 e.f1) ∧ w'.cell? ⟨be, 2, none⟩ = some (.int .i64 e.f2) ∧ w'.cell? ⟨be, 3, none⟩ = some (.bool e.f3))
                  (first | exact HMK.out _ (below_drew (Below.refl _ _)) | exact HMK.out _ hB4 | exact HMK.out _ hB3)
                  (first | (go_at_call 83; (with_reducible refine (clock_clash.calls _ _ _ _ _ _ _ _ true _ HCT.out).mono ?_); rintro e_ w3 ⟨rfl, hb3⟩; have hB3 : Below wr.heap.size wr w3 := (below_drew (Below.refl _ wr)).trans (hb3.mono (Nat.le_refl _))) | (go_at_call 80; (with_reducible refine (before_calls l0 (some ad) c0 _ AS cS x j _ (Kd.C_below HCW.out hB3) hc0 (HSW.out.below hB3) HOK.out x0 x1 j0 hlt).mono ?_); rintro e_ w4 ⟨rfl, hb4⟩; have hB4 : Below wr.heap.size wr w4 := hB3.trans (hb4.mono hB3.size)))
                all_goals
                  have HB4 := Aside0.mk hB4
                  have HMJ : Aside0 (meets (gl l0) j.toNat iN = !bef (gl l0) x.toNat j.toNat) := ⟨by unfold meets; rw [HGI.out, HG.out, hcl, HXN.out]; simp⟩
                  cases hbf : bef (gl l0) x.toNat j.toNat with
                  | true =>
                    have HBF := Aside0.mk hbf
                    go_wp2
                    go_roundw
                    case rel => exact ⟨m + 1, by go_num, ⟨by omega, by omega, fun k hk y hy => by
                      by_cases hkm : k < m.toNat
                      · exact HM.out.2.2 k hkm y hy
                      · obtain rfl : k = m.toNat := by omega
                        rw [HIN.out] at hy
                        injection hy with hy
                        subst hy
                        rw [HMJ.out, HBF.out]; rfl⟩, ⟨HB.out.trans (HB4.out.mono HB.out.size)⟩⟩
                    case measure => simp [intOf]; omega
                  | false =>
                    have HBF := Aside0.mk hbf
                    have HRA : Aside0 (x = r1 ∧ j = r2) := ⟨by
                      have h1 : raceAt (gl l0) j.toNat = some iN := by
                        rw [raceAt_box, ← HBX.out]
                        exact find_at BX m.toNat iN HIN.out (by rw [HMJ.out, HBF.out]; rfl) HM.out.2.2
                      have h2 := HJ.out.2.2
                      rw [show l0.length - j.toNat = (l0.length - j.toNat - 1) + 1 by omega, race_some h1] at h2
                      injection h2 with h3 h4
                      have := HX.out
                      omega⟩
                    go_wp2
                    go_ret2
                    exact ⟨by rw [HRA.out.1, HRA.out.2]; rfl, ((HB1.out.trans (HBW3.out.mono HB1.out.size)).trans (HB.out.mono (Nat.le_trans HB1.out.size HBW3.out.size))).trans (HB4.out.mono (Nat.le_trans HB1.out.size (Nat.le_trans HBW3.out.size HB.out.size)))⟩
            · have hmtb := decide_eq_false hmt
              have HNO : Aside0 (raceAt (gl l0) j.toNat = none) := ⟨by
                rw [raceAt_box, ← HBX.out]
                exact find_no (fun k hk y hy => HM.out.2.2 k (by omega) y hy)⟩
              go_upto_region 13 with fail
              have HGD := Aside0.mk ((HGM3.out.below HB.out).below (below_drew (Below.refl _ wr)))
              have hBE := blk_below HEB2.out HB.out
              obtain ⟨hf0, hf1, hf2, hf3⟩ := blk4 hBE
              have HBE := Aside0.mk hBE
              clear hBE hf0 hf1 hf3 HRI HM hmtb hmt hrun
              obtain ⟨A2, c2, hrun2, ho2, hle2, hback2⟩ := HGD.out.at_ (by unfold maxLen; omega) HWF.out
              simp only [hbx] at hrun2 ho2 hle2 hback2
              obtain ⟨es2, cl2, hm2⟩ := HGD.out.map_at
              have hb2 : w1.heap.size < wr.drew.heap.size := (Array.getElem?_eq_some_iff.1 hm2).1
              have hrun3 := HGD.out.look_same (w' := (wr.alloc (.cells #[.int .i64 j] 3)).drew) HWF.out hrun2 (Below.heap_alloc _ _ _ hb2)
              have HRO : Aside0 (Kd.R (Kd.int .i64) 3 wr.drew (w1.heap.size + 1) (fun _ => True) (.slice A2 BX.length c2) (BX.map Int.ofNat)) := ⟨Kd.R_of_own (enc := Value.int .i64) ho2.1 (fun _ _ => trivial)⟩
              have HO2 := Aside0.mk ho2
              have HBK := Aside0.mk hback2
              have HM2 := Aside0.mk hm2
              clear ho2 hback2 hm2
              have hS0 : wr.drew.cell? ⟨be, 2, none⟩ = some (.int .i64 e.f2) := hf2
              have hS1 := pw_cell_below (below_alloc (Below.refl _ wr.drew) (.cells #[.int .i64 j] 3)) hS0
              have hjw : (Lit.int .i64 j).wf = true := WalkArith.wf_i64 (by omega)
              have HJW := Aside0.mk hjw
              clear hjw
              go_region_held_law (fun w' => w'.cell? ⟨be, 2, none⟩ = some (.int .i64 e.f2))
                (first | exact hS0 | exact hS1 | exact hS8 | exact hS7)
                (first | (refine Kd.R_append_step (Kd.int .i64) (w0 := wr.drew) (W := wr.drew) (w1.heap.size + 1) (by rfl) (.tmp 55) (.tmp 57) 25 3 (.int .i64 0) 8 (by rfl) Try.underlying25 info3 rfl (by decide) (by omega) (.slice A2 BX.length c2) (BX.map Int.ofNat) j [.int .i64 j] (fun _ => True) (fun _ => False) (by rfl) (by rfl) ?_ ?_ ?_ ?_ ?_ ?_ ?_ ?_; exact rfl; exact (fun _ hk => hk.elim); exact (fun _ _ => trivial); exact HRO.out; exact (Below.refl _ _); exact hb2; (rw [List.length_map]; omega); intro v7 w7 ho7 hb7 hg7 hat7; have HS7 := Aside0.mk (race_row (w := wr.drew) HBE.out HO2.out hg7); have hS7 := (blk4 HS7.out).2.2.1; obtain ⟨w8, hr8, hgm8, hg8⟩ := HBK.out w7 v7 j.toNat hg7 (race_own HO2.out HJW.out j0 ho7) hat7; have HS8 := Aside0.mk (race_map (w := wr.drew) HM2.out HBE.out HS7.out hg8); have hS8 := (blk4 HS8.out).2.2.1))
              all_goals
                have HBF := Aside0.mk (((below_drew (HBW3.out.trans (HB.out.mono HBW3.out.size))).trans (hb7.mono (Nat.le_succ _))).grown hg8 (Nat.le_trans (Nat.le_of_lt hb2) hb7.size) (fun k hk => by injection hk with hk; omega))
                have HGF : Aside0 (GM w8 (w1.heap.size + 1) w1.heap.size (j.toNat + 1) (boxAt (gl l0) (j.toNat + 1))) := ⟨by
                  have h := hgm8
                  rw [← boxAt_upd (by rw [HG.out]; exact HPT.out), ← HBX.out, HG.out]
                  exact h⟩
                clear hgm8 hb7 hg7 hg8 ho7 hat7
                go_wp2
                go_roundw
                case rel => exact ⟨j + 1, by go_num, ⟨by omega, by omega, by rw [show (j + 1).toNat = j.toNat + 1 by omega, ← race_none HNO.out, show l0.length - (j.toNat + 1) + 1 = l0.length - j.toNat by omega]; exact HJ.out.2.2⟩, ⟨by rw [show (j + 1).toNat = j.toNat + 1 by omega]; exact HGF.out⟩, HBF⟩
                case measure => simp [intOf]; omega
      · have hltb := decide_eq_false hlt
        have HRA : Aside0 (r1 = -1 ∧ r2 = -1) := ⟨by
          have h := HJ.out.2.2
          have h2 := HJ.out.2.1
          rw [show l0.length - j.toNat = 0 by omega] at h
          have h : ((-1 : Int), (-1 : Int)) = (r1, r2) := h
          injection h with h3 h4
          exact ⟨h3.symm, h4.symm⟩⟩
        go_wp2
        go_ret2
        exact ⟨by rw [HRA.out.1, HRA.out.2]; rfl, HB1.out.trans (HBW.out.mono HB1.out.size)⟩
  · rw [if_neg hok] at h; cases h
end Go.Proofs.Ytlcnckbmolefpaa.P
end
section
namespace Go.Proofs.Ytlcnckbmolefpaa.CK
open Go.Proofs.Ytlcnckbmolefpaa.P
set_option linter.unusedVariables false
section
variable {g h : Nat → Ev}
theorem stp_congr {i j : Nat} (e : ∀ k, k ≤ j → g k = h k) (s : stp g i j) : stp h i j := by
  obtain ⟨h1, h2, h3, h4⟩ := s
  have ei := e i (by omega)
  have ej := e j (Nat.le_refl _)
  refine ⟨h1, ei ▸ h2, ej ▸ h3, ?_⟩
  rw [← ei, ← ej]
  refine h4.imp id (fun ⟨a, b⟩ => ⟨a, b.imp (fun ⟨c, d, f⟩ => ⟨c, d, fun k k1 k2 => ?_⟩) id⟩)
  rw [← e k (by omega)]
  exact f k k1 k2
theorem hb_congr {i j : Nat} (s : hb g i j) : (∀ k, k ≤ j → g k = h k) → hb h i j := by
  induction s with
  | one s => exact fun e => .one (stp_congr e s)
  | more _ s ih => exact fun e => .more (ih (fun k hk => e k (by have := s.1; omega))) (stp_congr e s)
end
section
variable (g : Nat → Ev)
def wn (w : Int) : Nat → Nat
  | 0 => 0
  | n + 1 => if (g n).kind = 1 ∧ (g n).at_ = w then wn w n + 1 else wn w n
end
section
variable {g h : Nat → Ev} {w : Int}
theorem wn_congr : ∀ n, (∀ k, k < n → g k = h k) → wn g w n = wn h w n
  | 0, _ => rfl
  | n + 1, e => by
    unfold wn
    rw [e n (by omega), wn_congr n (fun k hk => e k (by omega))]
theorem wn_step (n : Nat) : wn g w n ≤ wn g w (n + 1) := by
  show _ ≤ (if (g n).kind = 1 ∧ (g n).at_ = w then wn g w n + 1 else wn g w n)
  split <;> omega
theorem wn_mono {n m : Nat} (e : n ≤ m) : wn g w n ≤ wn g w m := by
  induction e with
  | refl => exact Nat.le_refl _
  | step _ ih => exact Nat.le_trans ih (wn_step _)
theorem wn_not {n : Nat} (e : ¬ ((g n).kind = 1 ∧ (g n).at_ = w)) : wn g w (n + 1) = wn g w n := if_neg e
theorem wn_yes {n : Nat} (e : (g n).kind = 1 ∧ (g n).at_ = w) : wn g w (n + 1) = wn g w n + 1 := if_pos e
theorem wn_last : ∀ {n i : Nat}, wn g w i < wn g w n → i ≤ n → ∃ s, i ≤ s ∧ s < n ∧ (g s).kind = 1 ∧ (g s).at_ = w ∧ ∀ k, s < k → k < n → ¬ ((g k).kind = 1 ∧ (g k).at_ = w)
  | 0, i, e, l => by obtain rfl : i = 0 := by omega
                     omega
  | n + 1, i, e, l => by
    by_cases hn : (g n).kind = 1 ∧ (g n).at_ = w
    · by_cases hi : i = n + 1
      · subst hi; omega
      · exact ⟨n, by omega, by omega, hn.1, hn.2, fun k k1 k2 => by omega⟩
    · rw [wn_not hn] at e
      have hi : i ≤ n := by
        rcases Nat.lt_or_ge n i with q | q
        · obtain rfl : i = n + 1 := by omega
          rw [wn_not hn] at e; omega
        · exact q
      obtain ⟨s, s1, s2, s3, s4, s5⟩ := wn_last e hi
      exact ⟨s, s1, by omega, s3, s4, fun k k1 k2 => by
        by_cases e : k = n
        · subst e; exact hn
        · exact s5 k k1 (by omega)⟩
end
def ringEv (g : Nat → Ev) (m i : Nat) : Prop :=
  ((g i).who = 0 ∧ (g i).kind = 0 ∧ (g i).at_ = 2) ∨ ((g i).who = 0 ∧ (g i).kind = 3 ∧ (g i).at_ = ((1 + wn g 1 i % m : Nat) : Int)) ∨ ((g i).who = 0 ∧ (g i).kind = 1 ∧ (g i).at_ = 1) ∨
  ((g i).who = 1 ∧ (g i).kind = 0 ∧ (g i).at_ = 1) ∨ ((g i).who = 1 ∧ (g i).kind = 2 ∧ (g i).at_ = ((1 + wn g 2 i % m : Nat) : Int)) ∨ ((g i).who = 1 ∧ (g i).kind = 1 ∧ (g i).at_ = 2)
structure LG (g : Nat → Ev) (m n P Q : Nat) : Prop where
  shape : ∀ i, i < n → ringEv g m i
  setB : ∀ i, i < n → (g i).kind = 3 → wn g 1 i < wn g 2 i + m
  getB : ∀ i, i < n → (g i).kind = 2 → wn g 2 i < wn g 1 i
  kn1 : ∀ i, i < n → (g i).kind = 3 → wn g 1 i < P → ∃ k, k < n ∧ (g k).who = 1 ∧ hb g i k
  kn2 : ∀ i, i < n → (g i).kind = 2 → wn g 2 i < Q → ∃ k, k < n ∧ (g k).who = 0 ∧ hb g i k
  free : ∀ i j, i < j → j < n → clashE (g i) (g j) = true → hb g i j
  P1 : P ≤ wn g 1 n
  Q1 : Q ≤ wn g 2 n
theorem ringEv.val {g : Nat → Ev} {m i : Nat} (h : ringEv g m i) : valid (g i) := by
  unfold valid
  rcases h with h | h | h | h | h | h <;> omega
theorem LG.zero (g : Nat → Ev) (m : Nat) : LG g m 0 0 0 := ⟨fun i hi => by omega, fun i hi => by omega, fun i hi => by omega, fun i hi => by omega, fun i hi => by omega, fun i j _ hj => by omega, Nat.zero_le _, Nat.zero_le _⟩
theorem LG.congr {g h : Nat → Ev} {m n P Q : Nat} (e : ∀ k, k < n → g k = h k) (l : LG g m n P Q) : LG h m n P Q := by
  have ew : ∀ w i, i ≤ n → wn g w i = wn h w i := fun w i hi => wn_congr i (fun k hk => e k (by omega))
  refine ⟨fun i hi => ?_, fun i hi hk => ?_, fun i hi hk => ?_, fun i hi hk hp => ?_, fun i hi hk hp => ?_, fun i j hij hj hc => ?_, ?_, ?_⟩
  · have := l.shape i hi
    unfold ringEv at this ⊢
    rw [← e i hi, ← ew 1 i (by omega), ← ew 2 i (by omega)]
    exact this
  · rw [← ew 1 i (by omega), ← ew 2 i (by omega)]; exact l.setB i hi (by rw [e i hi]; exact hk)
  · rw [← ew 1 i (by omega), ← ew 2 i (by omega)]; exact l.getB i hi (by rw [e i hi]; exact hk)
  · obtain ⟨k, k1, k2, k3⟩ := l.kn1 i hi (by rw [e i hi]; exact hk) (by rw [ew 1 i (by omega)]; exact hp)
    exact ⟨k, k1, by rw [← e k k1]; exact k2, hb_congr k3 (fun x hx => e x (by omega))⟩
  · obtain ⟨k, k1, k2, k3⟩ := l.kn2 i hi (by rw [e i hi]; exact hk) (by rw [ew 2 i (by omega)]; exact hp)
    exact ⟨k, k1, by rw [← e k k1]; exact k2, hb_congr k3 (fun x hx => e x (by omega))⟩
  · exact hb_congr (l.free i j hij hj (by rw [e i (by omega), e j hj]; exact hc)) (fun x hx => e x (by omega))
  · rw [← ew 1 n (Nat.le_refl _)]; exact l.P1
  · rw [← ew 2 n (Nat.le_refl _)]; exact l.Q1
theorem clash_kind {a b : Ev} (h : clashE a b = true) : (a.kind = 2 ∨ a.kind = 3) ∧ (b.kind = 2 ∨ b.kind = 3) ∧ a.at_ = b.at_ ∧ a.who ≠ b.who := by
  unfold clashE plainE at h
  simp only [Bool.and_eq_true, Bool.or_eq_true, decide_eq_true_eq, Bool.not_eq_true', decide_eq_false_iff_not] at h
  exact ⟨h.1.1.1.1, h.1.1.1.2, h.1.1.2, h.1.2⟩
theorem mod_far {m a b : Nat} (hm : 0 < m) (h : a % m = b % m) (hl : a < b) : a + m ≤ b := by
  have h1 := Nat.div_add_mod a m
  have h2 := Nat.div_add_mod b m
  have h3 : a / m < b / m := by
    rcases Nat.lt_or_ge (a / m) (b / m) with q | q
    · exact q
    · have := Nat.mul_le_mul_left m q
      omega
  have h4 := Nat.mul_le_mul_left m (show a / m + 1 ≤ b / m by omega)
  rw [Nat.mul_add] at h4
  omega
section
variable {g : Nat → Ev} {m n P Q : Nat}
theorem LG.word (l : LG g m n P Q) (hs : ringEv g m n) (hk : (g n).kind ≠ 2 ∧ (g n).kind ≠ 3) : LG g m (n + 1) P Q := by
  have up : ∀ {p : Nat → Prop}, (∃ k, k < n ∧ p k) → ∃ k, k < n + 1 ∧ p k := fun ⟨k, k1, k2⟩ => ⟨k, by omega, k2⟩
  have cs : ∀ i, i < n + 1 → i < n ∨ i = n := fun i hi => by omega
  refine ⟨fun i hi => ?_, fun i hi h3 => ?_, fun i hi h2 => ?_, fun i hi h3 hp => ?_, fun i hi h2 hp => ?_, fun i j hij hj hc => ?_, Nat.le_trans l.P1 (wn_step n), Nat.le_trans l.Q1 (wn_step n)⟩
  · rcases cs i hi with q | rfl
    · exact l.shape i q
    · exact hs
  · rcases cs i hi with q | rfl
    · exact l.setB i q h3
    · exact absurd h3 hk.2
  · rcases cs i hi with q | rfl
    · exact l.getB i q h2
    · exact absurd h2 hk.1
  · rcases cs i hi with q | rfl
    · exact up (l.kn1 i q h3 hp)
    · exact absurd h3 hk.2
  · rcases cs i hi with q | rfl
    · exact up (l.kn2 i q h2 hp)
    · exact absurd h2 hk.1
  · rcases cs j hj with q | rfl
    · exact l.free i j hij q hc
    · exact ((clash_kind hc).2.1.elim hk.1 hk.2).elim
theorem LG.look1 (l : LG g m n P Q) (hw : (g n).who = 1) (hk : (g n).kind = 0) (ha : (g n).at_ = 1) : LG g m (n + 1) (wn g 1 n) Q := by
  have hs : ringEv g m n := .inr (.inr (.inr (.inl ⟨hw, hk, ha⟩)))
  have l2 := l.word hs ⟨by omega, by omega⟩
  refine ⟨l2.shape, l2.setB, l2.getB, fun i hi h3 hp => ?_, l2.kn2, l2.free, ?_, l2.Q1⟩
  · have hin : i < n := by
      rcases Nat.lt_or_ge i n with q | q
      · exact q
      · obtain rfl : i = n := by omega
        omega
    obtain ⟨s, s1, s2, s3, s4, s5⟩ := wn_last hp (by omega)
    have his : i < s := by
      rcases Nat.lt_or_ge i s with q | q
      · exact q
      · obtain rfl : i = s := by omega
        omega
    have ws : (g s).who = 0 := by
      rcases l.shape s s2 with h | h | h | h | h | h <;> omega
    have wi : (g i).who = 0 := by
      rcases l.shape i hin with h | h | h | h | h | h <;> omega
    refine ⟨n, by omega, hw, .more (.one ⟨his, (l.shape i hin).val, (l.shape s s2).val, .inl (by rw [wi, ws])⟩) ⟨s2, (l.shape s s2).val, hs.val, .inr ⟨by rw [s4, ha], .inl ⟨s3, hk, fun k k1 k2 hh => s5 k k1 k2 ⟨hh.1, by rw [hh.2, s4]⟩⟩⟩⟩⟩
  · exact wn_step n
theorem LG.look2 (l : LG g m n P Q) (hw : (g n).who = 0) (hk : (g n).kind = 0) (ha : (g n).at_ = 2) : LG g m (n + 1) P (wn g 2 n) := by
  have hs : ringEv g m n := .inl ⟨hw, hk, ha⟩
  have l2 := l.word hs ⟨by omega, by omega⟩
  refine ⟨l2.shape, l2.setB, l2.getB, l2.kn1, fun i hi h3 hp => ?_, l2.free, l2.P1, ?_⟩
  · have hin : i < n := by
      rcases Nat.lt_or_ge i n with q | q
      · exact q
      · obtain rfl : i = n := by omega
        omega
    obtain ⟨s, s1, s2, s3, s4, s5⟩ := wn_last hp (by omega)
    have his : i < s := by
      rcases Nat.lt_or_ge i s with q | q
      · exact q
      · obtain rfl : i = s := by omega
        omega
    have ws : (g s).who = 1 := by
      rcases l.shape s s2 with h | h | h | h | h | h <;> omega
    have wi : (g i).who = 1 := by
      rcases l.shape i hin with h | h | h | h | h | h <;> omega
    refine ⟨n, by omega, hw, .more (.one ⟨his, (l.shape i hin).val, (l.shape s s2).val, .inl (by rw [wi, ws])⟩) ⟨s2, (l.shape s s2).val, hs.val, .inr ⟨by rw [s4, ha], .inl ⟨s3, hk, fun k k1 k2 hh => s5 k k1 k2 ⟨hh.1, by rw [hh.2, s4]⟩⟩⟩⟩⟩
  · exact wn_step n
theorem LG.lay (l : LG g m n P Q) (hm : 0 < m) (hw : (g n).who = 0) (hk : (g n).kind = 3) (ha : (g n).at_ = ((1 + wn g 1 n % m : Nat) : Int)) (hr : wn g 1 n < Q + m) : LG g m (n + 1) P Q := by
  have hs : ringEv g m n := .inr (.inl ⟨hw, hk, ha⟩)
  have up : ∀ {p : Nat → Prop}, (∃ k, k < n ∧ p k) → ∃ k, k < n + 1 ∧ p k := fun ⟨k, k1, k2⟩ => ⟨k, by omega, k2⟩
  have cs : ∀ i, i < n + 1 → i < n ∨ i = n := fun i hi => by omega
  refine ⟨fun i hi => ?_, fun i hi h3 => ?_, fun i hi h2 => ?_, fun i hi h3 hp => ?_, fun i hi h2 hp => ?_, fun i j hij hj hc => ?_, Nat.le_trans l.P1 (wn_step n), Nat.le_trans l.Q1 (wn_step n)⟩
  · rcases cs i hi with q | rfl
    · exact l.shape i q
    · exact hs
  · rcases cs i hi with q | rfl
    · exact l.setB i q h3
    · have := l.Q1; omega
  · rcases cs i hi with q | rfl
    · exact l.getB i q h2
    · omega
  · rcases cs i hi with q | rfl
    · exact up (l.kn1 i q h3 hp)
    · have := l.P1; omega
  · rcases cs i hi with q | rfl
    · exact up (l.kn2 i q h2 hp)
    · omega
  · rcases cs j hj with q | rfl
    · exact l.free i j hij q hc
    · obtain ⟨c1, c2, c3, c4⟩ := clash_kind hc
      have hsi := l.shape i hij
      have hi2 : (g i).kind = 2 ∧ (g i).at_ = ((1 + wn g 2 i % m : Nat) : Int) := by
        rcases hsi with h | h | h | h | h | h <;> first | omega | exact ⟨h.2.1, h.2.2⟩
      have h1 := l.getB i hij hi2.1
      have h2 : wn g 1 i ≤ wn g 1 j := wn_mono (by omega)
      have h3 := mod_far hm (a := wn g 2 i) (b := wn g 1 j) (by omega) (by omega)
      obtain ⟨k, k1, k2, k3⟩ := l.kn2 i hij hi2.1 (by omega)
      exact .more k3 ⟨k1, (l.shape k k1).val, hs.val, .inl (by rw [k2, hw])⟩
theorem LG.fetch (l : LG g m n P Q) (hm : 0 < m) (hw : (g n).who = 1) (hk : (g n).kind = 2) (ha : (g n).at_ = ((1 + wn g 2 n % m : Nat) : Int)) (hr : wn g 2 n < P) : LG g m (n + 1) P Q := by
  have hs : ringEv g m n := .inr (.inr (.inr (.inr (.inl ⟨hw, hk, ha⟩))))
  have up : ∀ {p : Nat → Prop}, (∃ k, k < n ∧ p k) → ∃ k, k < n + 1 ∧ p k := fun ⟨k, k1, k2⟩ => ⟨k, by omega, k2⟩
  have cs : ∀ i, i < n + 1 → i < n ∨ i = n := fun i hi => by omega
  refine ⟨fun i hi => ?_, fun i hi h3 => ?_, fun i hi h2 => ?_, fun i hi h3 hp => ?_, fun i hi h2 hp => ?_, fun i j hij hj hc => ?_, Nat.le_trans l.P1 (wn_step n), Nat.le_trans l.Q1 (wn_step n)⟩
  · rcases cs i hi with q | rfl
    · exact l.shape i q
    · exact hs
  · rcases cs i hi with q | rfl
    · exact l.setB i q h3
    · omega
  · rcases cs i hi with q | rfl
    · exact l.getB i q h2
    · have := l.P1; omega
  · rcases cs i hi with q | rfl
    · exact up (l.kn1 i q h3 hp)
    · omega
  · rcases cs i hi with q | rfl
    · exact up (l.kn2 i q h2 hp)
    · have := l.Q1; omega
  · rcases cs j hj with q | rfl
    · exact l.free i j hij q hc
    · obtain ⟨c1, c2, c3, c4⟩ := clash_kind hc
      have hsi := l.shape i hij
      have hi3 : (g i).kind = 3 ∧ (g i).at_ = ((1 + wn g 1 i % m : Nat) : Int) := by
        rcases hsi with h | h | h | h | h | h <;> first | omega | exact ⟨h.2.1, h.2.2⟩
      have h1 := l.setB i hij hi3.1
      have h2 : wn g 2 i ≤ wn g 2 j := wn_mono (by omega)
      have h3 : wn g 1 i ≤ wn g 2 j := by
        rcases Nat.lt_or_ge (wn g 2 j) (wn g 1 i) with q | q
        · have := mod_far hm (a := wn g 2 j) (b := wn g 1 i) (by omega) q
          omega
        · exact q
      obtain ⟨k, k1, k2, k3⟩ := l.kn1 i hij hi3.1 (by omega)
      exact .more k3 ⟨k1, (l.shape k k1).val, hs.val, .inl (by rw [k2, hw])⟩
theorem LG.race (l : LG g m n P Q) : ∀ d j, j + d = n → raceFrom g j d = (-1, -1)
  | 0, j, _ => rfl
  | d + 1, j, e => by
    have h : raceAt g j = none := by
      unfold raceAt
      rw [List.find?_eq_none]
      intro i hi hm
      have hij := List.mem_range.1 hi
      unfold meets at hm
      rw [Bool.and_eq_true, Bool.not_eq_true'] at hm
      have := (bef_iff hij).2 (l.free i j hij (by omega) hm.1)
      rw [this] at hm
      cases hm.2
    rw [race_none h]
    exact LG.race l d (j + 1) (by omega)
end
end Go.Proofs.Ytlcnckbmolefpaa.CK
end
section
namespace Go.Proofs.Ytlcnckbmolefpaa.P
open Go.RowKit Go.Proofs.YtlcnckbmolefpaaW.PrintWords Go.Proofs.YtlcnckbmolefpaaW.PrintLast Go.Proofs.YtlcnckbmolefpaaW.PrintMore
attribute [local go_sem] max2_int min2_int max_two min_two max_three min_three max_four min_four   -- for this text's walks alone
set_option linter.unusedVariables false
set_option linter.unusedSimpArgs false
/-! ### pick_Who: function 17 -/
def pick_Who.f (a0 : Int) (a1 : Int) : Option (Int) := if a1 < 1 then (some (-1)) else (if (IntKind.u64.wrap (a1)) = 0 then (none) else (some (wrap64 (Int.tmod (IntKind.u64.wrap (a0)) (IntKind.u64.wrap (a1))))))
set_option maxHeartbeats 8000000 in
set_option maxRecDepth 100000 in
theorem pick_Who.calls (a0 : Int) (a1 : Int) (r : Int) (w : World) (h : pick_Who.f a0 a1 = some r) :
    Calls Try.prog 17 #[.int .i64 a0, .int .i64 a1] w fun e w' => e = .returned (.int .i64 r) ∧ Drawn0 w w' := by
  have H : (if a1 < 1 then (some (-1)) else (if (IntKind.u64.wrap (a1)) = 0 then (none) else (some (wrap64 (Int.tmod (IntKind.u64.wrap (a0)) (IntKind.u64.wrap (a1))))))) = some r := h
  clear h
  by_cases c3 : a1 < 1
  · rw [if_pos c3] at H
    have c3b0 : decide (a1 < 1) = true := decide_eq_true c3
    clear c3
    obtain rfl := Option.some.inj H
    go_enter Try.func17, Try.ntmps17
    go_wp2
    go_ret
    exact ⟨by first | rfl | (simp; done) | (simp [*]; done), by repeat (first | exact Drawn0.refl _ | apply Drawn0.step)⟩
  · rw [if_neg c3] at H
    have c3b0 : decide (a1 < 1) = false := decide_eq_false c3
    clear c3
    by_cases c4 : (IntKind.u64.wrap (a1)) = 0
    · rw [if_pos c4] at H
      exact absurd H (by simp)
    · rw [if_neg c4] at H
      have c4b0 : ((IntKind.u64.wrap (a1)) == 0) = false := beq_eq_false_iff_ne.mpr c4
      have c4b1 : ((IntKind.u64.wrap (a1)) != 0) = true := bne_iff_ne.mpr c4
      obtain rfl := Option.some.inj H
      go_enter Try.func17, Try.ntmps17
      go_wp2
      go_ret
      exact ⟨by first | rfl | (simp; done) | (simp [*]; done), by repeat (first | exact Drawn0.refl _ | apply Drawn0.step)⟩
open Go.RowKit Go.Maps Go.Proofs.YtlcnckbmolefpaaW.PrintWords Go.Proofs.YtlcnckbmolefpaaW.PrintLast Go.Proofs.YtlcnckbmolefpaaW.PrintMore
def whoV (p m : Int) : Int := Int.tmod (IntKind.u64.wrap p) m
theorem u64_pos (p : Int) : 0 ≤ IntKind.u64.wrap p := by simp [IntKind.wrap, IntKind.bits, IntKind.signed]; omega
theorem whoV_nonneg (p : Int) {m : Int} (h : 1 ≤ m) : 0 ≤ whoV p m := Int.tmod_nonneg _ (u64_pos p)
theorem whoV_lt (p : Int) {m : Int} (h : 1 ≤ m) : whoV p m < m := Int.tmod_lt_of_pos _ (by omega)
theorem who_eq (p : Int) {m : Int} (h : 1 ≤ m) (h2 : m ≤ 1000000) : pick_Who.f p m = some (whoV p m) := by
  have e : IntKind.u64.wrap m = m := by simp [IntKind.wrap, IntKind.bits, IntKind.signed]; omega
  have a := whoV_nonneg p h
  have b := whoV_lt p h
  unfold pick_Who.f
  rw [if_neg (by omega), e, if_neg (by omega)]
  show some (wrap64 (whoV p m)) = _
  rw [show wrap64 (whoV p m) = whoV p m by unfold wrap64; omega]
def lastv (L : List Int) (m x : Int) : Nat → Int
  | 0 => -1
  | i + 1 => if whoV (rd L i) m = x then (i : Int) else lastv L m x i
def fairAt (L : List Int) (m win : Int) (i : Nat) : Bool := decide ((i : Int) + 1 < win) || (List.range m.toNat).all fun x => decide (lastv L m x (i + 1) > (i : Int) - win)
def fairB (L : List Int) (m win : Int) : Bool := decide (1 ≤ win) && (List.range L.length).all (fairAt L m win)
def pick_Fair.f (l0 : List Int) (a1 a2 : Int) : Option Bool := if 0 ≤ a1 ∧ l0.length ≤ 1000000 then (if a1 ≤ 1000000 then some (fairB l0 a1 a2) else none) else none
structure MapIs (D : DataW Unit) (m : Int) (f : Int → Int) : Prop where
  isMap : IsMap D
  has : ∀ x : Int, Maps.has D (.int .i64 x) = decide (0 ≤ x ∧ x < m)
  at_ : ∀ x : Int, 0 ≤ x → x < m → ∀ z, D.atKey (.int .i64 x) z = .lit (.int .i64 (f x))
theorem mapIs_nil (f : Int → Int) : MapIs (.map []) 0 f := ⟨⟨[], rfl⟩, fun x => by rw [show Maps.has (.map [] : DataW Unit) (.int .i64 x) = false from rfl]; symm; exact decide_eq_false (by omega), fun x h0 h1 => by omega⟩
theorem key_ne {x y : Int} (h : x ≠ y) : (Lit.int .i64 x) ≠ Lit.int .i64 y := fun e => h (by injection e)
theorem mapIs_more {D : DataW Unit} {m : Int} {f : Int → Int} (h : MapIs D m f) (hm : 0 ≤ m) : MapIs (D.put (.int .i64 m) (.lit (.int .i64 (f m)))) (m + 1) f := by
  refine ⟨h.isMap.put _ _, fun x => ?_, fun x h0 h1 z => ?_⟩
  · by_cases e : x = m
    · subst e; rw [has_put_same (k := .int .i64 x) h.isMap trivial]; symm; exact decide_eq_true (by omega)
    · rw [has_put_other (key_ne e), h.has]; apply decide_eq_decide.2; omega
  · by_cases e : x = m
    · subst e; rw [atKey_put_same (k := .int .i64 x) h.isMap trivial]
    · rw [atKey_put_other (key_ne e)]; exact h.at_ x h0 (by omega) z
theorem mapIs_set {D : DataW Unit} {m : Int} {f g : Int → Int} {y v : Int} (h : MapIs D m f) (h0 : 0 ≤ y) (h1 : y < m) (hg : ∀ x, g x = if y = x then v else f x) : MapIs (D.put (.int .i64 y) (.lit (.int .i64 v))) m g := by
  refine ⟨h.isMap.put _ _, fun x => ?_, fun x a0 a1 z => ?_⟩
  · by_cases e : x = y
    · subst e; rw [has_put_same (k := .int .i64 x) h.isMap trivial]; symm; exact decide_eq_true (by omega)
    · rw [has_put_other (key_ne e), h.has]
  · rw [hg x]
    by_cases e : x = y
    · subst e; rw [atKey_put_same (k := .int .i64 x) h.isMap trivial, if_pos rfl]
    · rw [atKey_put_other (key_ne e), if_neg (fun k => e k.symm)]; exact h.at_ x a0 a1 z
theorem law3 : Keyed Try.prog 3 := int_keyed Try.underlying3
theorem fair_no {L : List Int} {m win : Int} {i : Nat} (hi : i < L.length) (h1 : ¬ (i : Int) + 1 < win) {x : Int} (h2 : 0 ≤ x) (h3 : x < m) (h : lastv L m x (i + 1) ≤ (i : Int) - win) : fairB L m win = false := by
  unfold fairB
  rw [Bool.and_eq_false_iff]
  right
  rw [List.all_eq_false]
  refine ⟨i, List.mem_range.2 hi, ?_⟩
  unfold fairAt
  rw [Bool.not_eq_true, Bool.or_eq_false_iff]
  refine ⟨decide_eq_false h1, List.all_eq_false.2 ⟨x.toNat, List.mem_range.2 (by omega), ?_⟩⟩
  rw [show ((x.toNat : Nat) : Int) = x by omega]
  simp only [decide_eq_true_eq]
  omega
theorem fair_yes {L : List Int} {m win : Int} (hw : 1 ≤ win) (h : ∀ i : Nat, i < L.length → fairAt L m win i = true) : fairB L m win = true := by
  unfold fairB
  rw [Bool.and_eq_true]
  exact ⟨decide_eq_true hw, List.all_eq_true.2 fun i hi => h i (List.mem_range.1 hi)⟩
theorem fairAt_short {L : List Int} {m win : Int} {i : Nat} (h : (i : Int) + 1 < win) : fairAt L m win i = true := by unfold fairAt; rw [decide_eq_true h]; rfl
theorem fairAt_all {L : List Int} {m win : Int} {i : Nat} (h : ∀ x : Int, 0 ≤ x → x < m → lastv L m x (i + 1) > (i : Int) - win) : fairAt L m win i = true := by
  unfold fairAt
  rw [Bool.or_eq_true]
  refine Or.inr (List.all_eq_true.2 fun x hx => ?_)
  have := List.mem_range.1 hx
  exact decide_eq_true (h x (by omega) (by omega))
theorem mapIs_zero {D : DataW Unit} {m : Int} {f g : Int → Int} (h : MapIs D m f) (h0 : ¬ m > 0) : MapIs D m g := ⟨h.isMap, h.has, fun x a b => by omega⟩
theorem mapIs_step {L : List Int} {D : DataW Unit} {m i y : Int} (h : MapIs D m (fun x => lastv L m x i.toNat)) (h0 : 0 ≤ i) (hm : 0 < m) (hy : y = whoV (rd L i) m) : MapIs (D.put (.int .i64 y) (.lit (.int .i64 i))) m (fun x => lastv L m x (i + 1).toNat) := by
  subst hy
  refine mapIs_set h (whoV_nonneg _ (by omega)) (whoV_lt _ (by omega)) (fun x => ?_)
  show lastv L m x (i + 1).toNat = _
  rw [show (i + 1).toNat = i.toNat + 1 by omega, lastv, show ((i.toNat : Nat) : Int) = i by omega]
theorem fair_left {L : List Int} {D : DataW Unit} {m i win x c : Int} {left : Lit → Bool} (hD : MapIs D m (fun x => lastv L m x (i + 1).toNat)) (h : ∀ y : Int, 0 ≤ y → y < m → left (.int .i64 y) = false → lastv L m y (i + 1).toNat > i - win) (hat : ∀ zd, D.atKey (.int .i64 x) zd = .lit (.int .i64 c)) (hc : ¬ c ≤ i - win) :
    ∀ y : Int, 0 ≤ y → y < m → (left (.int .i64 y) && !(Lit.int .i64 y).sameKey (.int .i64 x)) = false → lastv L m y (i + 1).toNat > i - win := by
  intro y h0 h1 hy
  by_cases e : y = x
  · subst e
    have := hD.at_ y h0 h1 .nil
    rw [hat] at this
    injection this with this
    injection this with _ this
    rw [this] at hc
    exact Int.not_le.1 hc
  · rw [sameKey_ne (key_ne e)] at hy
    exact h y h0 h1 (by simpa using hy)
theorem fair_hit {L : List Int} {D : DataW Unit} {m i win x c : Int} (hi0 : 0 ≤ i) (hi : i < L.length) (hw : ¬ i + 1 < win) (hD : MapIs D m (fun x => lastv L m x (i + 1).toNat)) (hat : ∀ zd, D.atKey (.int .i64 x) zd = .lit (.int .i64 c)) (hc : c ≤ i - win) : fairB L m win = false := by
  have hx : 0 ≤ x ∧ x < m := of_decide_eq_true (by rw [← hD.has]; exact has_true_of_atKey hat)
  have e := hD.at_ x hx.1 hx.2 .nil
  rw [hat] at e
  injection e with e
  injection e with _ e
  rw [e] at hc
  have n1 : ((i.toNat : Nat) : Int) = i := by omega
  exact fair_no (i := i.toNat) (by omega) (by omega) hx.1 hx.2 (by rw [show i.toNat + 1 = (i + 1).toNat by omega, n1]; exact hc)
theorem fair_step {L : List Int} {m i win : Int} (hi0 : 0 ≤ i) (h : ∀ j : Nat, (j : Int) < i → fairAt L m win j = true) (hi : fairAt L m win i.toNat = true) : ∀ j : Nat, (j : Int) < i + 1 → fairAt L m win j = true := by
  intro j hj
  by_cases e : (j : Int) < i
  · exact h j e
  · rw [show j = i.toNat by omega]; exact hi
theorem fair_round {L : List Int} {m i win : Int} {left : Lit → Bool} (hi0 : 0 ≤ i) (h : ∀ y : Int, 0 ≤ y → y < m → left (.int .i64 y) = false → lastv L m y (i + 1).toNat > i - win) (hl : ∀ k, left k = false) : fairAt L m win i.toNat = true := by
  refine fairAt_all fun x h0 h1 => ?_
  have := h x h0 h1 (hl _)
  rw [show i.toNat + 1 = (i + 1).toNat by omega, show ((i.toNat : Nat) : Int) = i by omega]
  exact this
set_option maxHeartbeats 1000000 in
set_option maxRecDepth 100000 in
theorem pick_Fair.calls (A0 : Option Addr) (c0 : Nat) (l0 : List Int) (a1 a2 : Int) (r : Bool) (w : World) (hr0 : Kd.C (Kd.int .i64) w A0 l0.length l0) (hc0 : l0.length ≤ c0) (h : pick_Fair.f l0 a1 a2 = some r) :
    Calls Try.prog 22 #[.slice A0 l0.length c0, .int .i64 a1, .int .i64 a2] w fun e w' => e = .returned (.bool r) ∧ Below w.heap.size w w' := by
  unfold pick_Fair.f at h
  by_cases m0 : 0 ≤ a1 ∧ l0.length ≤ 1000000
  · rw [if_pos m0] at h
    obtain ⟨m0, lm⟩ := m0
    by_cases m1 : a1 ≤ 1000000
    · rw [if_pos m1] at h
      obtain rfl := Option.some.inj h
      clear h
      have HR := Aside0.mk hr0
      have hm := hr0.2.1
      clear hr0 hc0
      by_cases hw : a2 < 1
      · have e : fairB l0 a1 a2 = false := by unfold fairB; rw [decide_eq_false (by omega)]; rfl
        have E := Aside0.mk e
        have hwb := decide_eq_true hw
        clear e hw
        go_enter Try.func22, Try.ntmps22
        go_wp2
        go_ret
        exact ⟨by rw [E.out]; rfl, Below.refl _ _⟩
      · have hmm := @run_makeMap Try.prog
        have hw1 : 1 ≤ a2 := by omega
        have hwb := decide_eq_false hw
        have hmx : max a1 0 = a1 := by omega
        clear hw
        go_enter Try.func22, Try.ntmps22
        go_wp2
        go_loopw [18] (fun v18 wr => ∃ (j : Int) (D : DataW Unit), v18 = .int .i64 j ∧ Aside0 (0 ≤ j ∧ j ≤ a1 ∧ MapIs D j (fun _ => -1) ∧ wr.ownsMap Try.prog 3 (plainElem Try.prog 3) w.heap.size j.toNat D ∧ Below w.heap.size w wr)) (fun v18 _ => (a1 - intOf v18).toNat)
        case atStart => exact ⟨0, .map [], rfl, ⟨by omega, m0, mapIs_nil _, World.ownsMap_made _ _ _ _, (Below.refl _ _).alloc (Nat.le_refl _) _⟩⟩
        case round =>
          obtain ⟨j, D, rfl, HJ⟩ := hrel
          have j0 := HJ.out.1
          have j1 := HJ.out.2.1
          by_cases hlt : j < a1
          · have hltb := decide_eq_true hlt
            go_wp2_with (first | (at_mapUpdate; refine wpList_mapUpdate_own _ rfl _ _ _ 125 rfl 3 3 law3 Try.underlying125 _ w.heap.size _ _ rfl HJ.out.2.2.2.1 (by unfold maxLen; omega) _ _ _ rfl rfl (keyOf_int_mk Try.underlying3 (a := j) (WalkArith.wf_i64 (by omega))) _ [] (plainElem_int Try.underlying3 (by decide)) ?_; intro w2 hout2 hg2; go_frame))
            go_roundw
            case rel => exact ⟨j + 1, _, by go_num, ⟨by omega, by omega, mapIs_more HJ.out.2.2.1 j0, by rw [show (j + 1).toNat = j.toNat + 1 by omega]; exact hout2, HJ.out.2.2.2.2.grown hg2 HJ.out.2.2.2.2.size (fun k hk => by cases hk; exact Nat.le_refl _)⟩⟩
            case measure => simp [intOf]; omega
          · have hltb := decide_eq_false hlt
            obtain rfl : j = a1 := by omega
            have HJ2 := Aside0.mk HJ.out.2.2
            clear HJ
            obtain ⟨wo, rfl⟩ : ∃ wo : World, wo = wr := ⟨_, rfl⟩
            go_wp2
            go_loopw [26] (fun v26 wr => ∃ (i : Int) (D : DataW Unit), v26 = .int .i64 i ∧ Aside0 (0 ≤ i ∧ i ≤ l0.length ∧ MapIs D j (fun x => lastv l0 j x i.toNat) ∧ wr.ownsMap Try.prog 3 (plainElem Try.prog 3) w.heap.size (j.toNat + i.toNat) D ∧ Below w.heap.size w wr ∧ ∀ q : Nat, (q : Int) < i → fairAt l0 j a2 q = true)) (fun v26 _ => (l0.length - intOf v26).toNat)
            case atStart => exact ⟨0, D, rfl, ⟨by omega, by omega, HJ2.out.1, HJ2.out.2.1, HJ2.out.2.2, fun q hq => by omega⟩⟩
            case round =>
              obtain ⟨i, D, rfl, HI⟩ := hrel
              have i0 := HI.out.1
              have i1 := HI.out.2.1
              by_cases hlt : i < (l0.length : Int)
              · have hltb := decide_eq_true hlt
                obtain ⟨ad, rfl, hx⟩ := Kd.at_int (Kd.C_below HR.out HI.out.2.2.2.2.1) i i0 hlt
                by_cases hp : j > 0
                · have hpb := decide_eq_true hp
                  have WH := Aside0.mk (who_eq (rd l0 i) (m := j) (by omega) m1)
                  have wn := whoV_nonneg (rd l0 i) (m := j) (by omega)
                  have wl := whoV_lt (rd l0 i) (m := j) (by omega)
                  generalize hy : whoV (rd l0 i) j = y at WH wn wl
                  have HY := Aside0.mk hy
                  clear hy
                  by_cases hs : i + 1 < a2
                  · have hsb := decide_eq_true hs
                    go_wp2_with (first | (go_at_call 17; (with_reducible refine (pick_Who.calls (rd l0 i) j y _ WH.out).mono ?_); rintro e w' ⟨rfl, ⟨nd, rfl⟩⟩) | (at_mapUpdate; refine wpList_mapUpdate_own _ rfl _ _ _ 125 rfl 3 3 law3 Try.underlying125 (plainElem Try.prog 3) w.heap.size (j.toNat + i.toNat) D rfl ?hO (by unfold maxLen; omega) _ _ _ rfl rfl (keyOf_int_mk Try.underlying3 (a := y) (WalkArith.wf_i64 (by omega))) _ [] (plainElem_int Try.underlying3 (a := i) (WalkArith.wf_i64 (by omega))) ?_; (case hO => exact HI.out.2.2.2.1); intro w2 hout2 hg2; go_frame))
                    go_roundw
                    case rel => exact ⟨i + 1, _, by go_num, ⟨by omega, by omega, mapIs_step HI.out.2.2.1 i0 hp HY.out.symm, by rw [show j.toNat + (i + 1).toNat = j.toNat + i.toNat + 1 by omega]; exact hout2, (below_step HI.out.2.2.2.2.1 (Drawn0.below ⟨⟨nd, rfl⟩⟩)).grown hg2 (below_step HI.out.2.2.2.2.1 (Drawn0.below ⟨⟨nd, rfl⟩⟩)).size (fun k hk => by cases hk; exact Nat.le_refl _), fair_step i0 HI.out.2.2.2.2.2 (fairAt_short (by omega))⟩⟩
                    case measure => simp [intOf]; omega
                  · have hsb := decide_eq_false hs
                    go_wp2_with (first | (go_at_call 17; (with_reducible refine (pick_Who.calls (rd l0 i) j y _ WH.out).mono ?_); rintro e w' ⟨rfl, ⟨nd, rfl⟩⟩) | (at_mapUpdate; refine wpList_mapUpdate_own _ rfl _ _ _ 125 rfl 3 3 law3 Try.underlying125 (plainElem Try.prog 3) w.heap.size (j.toNat + i.toNat) D rfl ?hO (by unfold maxLen; omega) _ _ _ rfl rfl (keyOf_int_mk Try.underlying3 (a := y) (WalkArith.wf_i64 (by omega))) _ [] (plainElem_int Try.underlying3 (a := i) (WalkArith.wf_i64 (by omega))) ?_; (case hO => exact HI.out.2.2.2.1); intro w2 hout2 hg2; go_frame) | (at_range; have _t := hout2; refine wpList_range_own _ rfl _ 125 rfl 3 3 law3 Try.underlying125 (plainElem Try.prog 3) w.heap.size (j.toNat + i.toNat + 1) _ rfl hout2 ?_; intro w3 hrg3 hg3 hs3))
                    have HB2 := Aside0.mk ((below_step HI.out.2.2.2.2.1 (Drawn0.below ⟨⟨nd, rfl⟩⟩)).grown hg2 (below_step HI.out.2.2.2.2.1 (Drawn0.below ⟨⟨nd, rfl⟩⟩)).size (fun k hk => by cases hk; exact Nat.le_refl _))
                    have HB3 := Aside0.mk (HB2.out.grown hg3 HB2.out.size (fun k hk => by cases hk))
                    have HM := Aside0.mk (mapIs_step HI.out.2.2.1 i0 hp HY.out.symm)
                    have HRG := Aside0.mk hrg3
                    clear hrg3 hg3 hs3
                    (try go_frame)
                    go_loopw [12] (fun _ wr => Aside0 (∃ (left : Lit → Bool) (cnt : Nat), wr.ranges Try.prog 3 (plainElem Try.prog 3) w.heap.size w2.heap.size (j.toNat + i.toNat + 1) (D.put (.int .i64 y) (.lit (.int .i64 i))) left cnt ∧ Below w.heap.size w wr ∧ ∀ y : Int, 0 ≤ y → y < j → left (.int .i64 y) = false → lastv l0 j y (i + 1).toNat > i - a2)) (fun _ wr => wr.rangeLeft w.heap.size w2.heap.size)
                    case atStart => exact ⟨_, _, HRG.out, HB3.out, fun y h0 h1 h2 => by rw [HM.out.has] at h2; simp at h2; omega⟩
                    case round =>
                      obtain ⟨left, cnt, hrg, hbr, hlf⟩ := hrel.out
                      clear hrel
                      have HLF := Aside0.mk hlf
                      have HBR := Aside0.mk hbr
                      have HQ := Aside0.mk hrg
                      clear hlf hbr hrg
                      go_wp2_with (first | (at_next; refine wpList_next_ranges_ii _ rfl _ rfl 3 3 .i64 .i64 law3 Try.underlying3 Try.underlying3 w.heap.size w2.heap.size (j.toNat + i.toNat + 1) (D.put (.int .i64 y) (.lit (.int .i64 i))) left cnt rfl HQ.out ?_ ?_))
                      · intro _ hl0
                        have HS := Aside0.mk (fair_step i0 HI.out.2.2.2.2.2 (fair_round i0 HLF.out hl0))
                        clear hl0
                        go_wp2
                        go_roundw
                        case rel => exact ⟨i + 1, (D.put (.int .i64 y) (.lit (.int .i64 i))), by go_num, ⟨by omega, by omega, HM.out, by rw [show j.toNat + (i + 1).toNat = j.toNat + i.toNat + 1 by omega]; exact HQ.out.owns, HBR.out, HS.out⟩⟩
                        case measure => simp [intOf]; omega
                      · intro x c w1 cnt1 hwx hwc hlx hat hrg1 hlt1 hg1 hs1 hen
                        have HAT := Aside0.mk hat
                        have HG1 := Aside0.mk hrg1
                        have HLT1 := Aside0.mk hlt1
                        have HB1 := Aside0.mk (HBR.out.grown hg1 HBR.out.size (fun k hk => by cases hk; exact HB2.out.size))
                        clear hat hrg1 hlt1 hg1 hs1 hlx
                        by_cases hc : c ≤ i - a2
                        · have hcb := decide_eq_true hc
                          have HF := Aside0.mk (fair_hit i0 hlt (by omega) HM.out HAT.out hc)
                          go_wp2
                          go_ret
                          exact ⟨by rw [HF.out]; rfl, HB1.out⟩
                        · have hcb := decide_eq_false hc
                          have HN := Aside0.mk (fair_left HM.out HLF.out HAT.out hc)
                          go_wp2
                          go_roundw
                          case rel => exact ⟨⟨_, cnt1, HG1.out, HB1.out, HN.out⟩⟩
                          case measure => rw [HG1.out.left_eq, HQ.out.left_eq]; exact HLT1.out
                · have hpb := decide_eq_false hp
                  by_cases hs : i + 1 < a2
                  · have hsb := decide_eq_true hs
                    go_wp2
                    go_roundw
                    case rel => exact ⟨i + 1, D, by go_num, ⟨by omega, by omega, mapIs_zero HI.out.2.2.1 (by omega), by rw [show j.toNat + (i + 1).toNat = j.toNat + i.toNat + 1 by omega]; exact HI.out.2.2.2.1.mono (Nat.le_succ _), HI.out.2.2.2.2.1, fair_step i0 HI.out.2.2.2.2.2 (fairAt_short (by omega))⟩⟩
                    case measure => simp [intOf]; omega
                  · have hsb := decide_eq_false hs
                    obtain ⟨wi, rfl⟩ : ∃ wi : World, wi = wr := ⟨_, rfl⟩
                    go_wp2_with (first | (at_range; refine wpList_range_own _ rfl _ 125 rfl 3 3 law3 Try.underlying125 (plainElem Try.prog 3) w.heap.size (j.toNat + i.toNat) D rfl HI.out.2.2.2.1 ?_; intro w3 hrg3 hg3 hs3))
                    have HB3 := Aside0.mk (HI.out.2.2.2.2.1.grown hg3 HI.out.2.2.2.2.1.size (fun k hk => by cases hk))
                    have HM := Aside0.mk (mapIs_zero (g := fun x => lastv l0 j x (i + 1).toNat) HI.out.2.2.1 (by omega))
                    have HRG := Aside0.mk hrg3
                    clear hrg3 hg3 hs3
                    (try go_frame)
                    go_loopw [12] (fun _ wr => Aside0 (∃ (left : Lit → Bool) (cnt : Nat), wr.ranges Try.prog 3 (plainElem Try.prog 3) w.heap.size wi.heap.size (j.toNat + i.toNat) D left cnt ∧ Below w.heap.size w wr ∧ ∀ y : Int, 0 ≤ y → y < j → left (.int .i64 y) = false → lastv l0 j y (i + 1).toNat > i - a2)) (fun _ wr => wr.rangeLeft w.heap.size wi.heap.size)
                    case atStart => exact ⟨_, _, HRG.out, HB3.out, fun y h0 h1 h2 => by rw [HM.out.has] at h2; simp at h2; omega⟩
                    case round =>
                      obtain ⟨left, cnt, hrg, hbr, hlf⟩ := hrel.out
                      clear hrel
                      have HLF := Aside0.mk hlf
                      have HBR := Aside0.mk hbr
                      have HQ := Aside0.mk hrg
                      clear hlf hbr hrg
                      go_wp2_with (first | (at_next; refine wpList_next_ranges_ii _ rfl _ rfl 3 3 .i64 .i64 law3 Try.underlying3 Try.underlying3 w.heap.size wi.heap.size (j.toNat + i.toNat) D left cnt rfl HQ.out ?_ ?_))
                      · intro _ hl0
                        have HS := Aside0.mk (fair_step i0 HI.out.2.2.2.2.2 (fair_round i0 HLF.out hl0))
                        clear hl0
                        go_wp2
                        go_roundw
                        case rel => exact ⟨i + 1, D, by go_num, ⟨by omega, by omega, HM.out, by rw [show j.toNat + (i + 1).toNat = j.toNat + i.toNat + 1 by omega]; exact HQ.out.owns.mono (Nat.le_succ _), HBR.out, HS.out⟩⟩
                        case measure => simp [intOf]; omega
                      · intro x c w1 cnt1 hwx hwc hlx hat hrg1 hlt1 hg1 hs1 hen
                        have HAT := Aside0.mk hat
                        have HG1 := Aside0.mk hrg1
                        have HLT1 := Aside0.mk hlt1
                        have HB1 := Aside0.mk (HBR.out.grown hg1 HBR.out.size (fun k hk => by cases hk; exact HI.out.2.2.2.2.1.size))
                        clear hat hrg1 hlt1 hg1 hs1 hlx
                        by_cases hc : c ≤ i - a2
                        · have hcb := decide_eq_true hc
                          have HF := Aside0.mk (fair_hit i0 hlt (by omega) HM.out HAT.out hc)
                          go_wp2
                          go_ret
                          exact ⟨by rw [HF.out]; rfl, HB1.out⟩
                        · have hcb := decide_eq_false hc
                          have HN := Aside0.mk (fair_left HM.out HLF.out HAT.out hc)
                          go_wp2
                          go_roundw
                          case rel => exact ⟨⟨_, cnt1, HG1.out, HB1.out, HN.out⟩⟩
                          case measure => rw [HG1.out.left_eq, HQ.out.left_eq]; exact HLT1.out
              · have hltb := decide_eq_false hlt
                have hfin : fairB l0 j a2 = true := fair_yes hw1 (fun q hq => HI.out.2.2.2.2.2 q (by omega))
                have HF := Aside0.mk hfin
                clear hfin
                go_wp2
                go_ret
                exact ⟨by rw [HF.out]; rfl, HI.out.2.2.2.2.1⟩
    · rw [if_neg m1] at h; cases h
  · rw [if_neg m0] at h; cases h
open Go.RowKit Go.Maps Go.Proofs.Ytlcnckbmolefpaa.CK Go.Proofs.YtlcnckbmolefpaaW.PrintWords Go.Proofs.YtlcnckbmolefpaaW.PrintLast Go.Proofs.YtlcnckbmolefpaaW.PrintMore
attribute [local go_sem] max2_int min2_int max_two min_two
structure MS where
  words : List Int
  boxes : List (List S143)
  latches : List Int
  beds : Int → Option Int
  nb : Nat
  log : List S128
def BedIs (D : DataW Unit) (f : Int → Option Int) : Prop := ∀ x : Int, Maps.has D (.int .i64 x) = (f x).isSome ∧ ∀ v, f x = some v → ∀ z, D.atKey (.int .i64 x) z = .lit (.int .i64 v)
def BedR (w : World) (b n : Nat) (f : Int → Option Int) : Prop := ∃ D, w.ownsMap Try.prog 3 (plainElem Try.prog 3) b n D ∧ BedIs D f
theorem BedR.kept {w w' : World} {row : Option Nat} {b n : Nat} {f : Int → Option Int} (h : BedR w b n f) (hg : w.grownBy w' row) (hne : some b ≠ row) : BedR w' b n f := by
  obtain ⟨D, h, hr⟩ := h; exact ⟨D, h.kept hg hne, hr⟩
theorem BedR.same {w w' : World} {b n : Nat} {f : Int → Option Int} (h : BedR w b n f) (e : w'.heap[b]? = w.heap[b]?) : BedR w' b n f := by
  obtain ⟨D, ⟨es, cl, hb, F, hs, hD⟩, hr⟩ := h
  exact ⟨D, ⟨es, cl, e.trans hb, F, hs, hD⟩, hr⟩
theorem BedR.lt {w : World} {b n : Nat} {f : Int → Option Int} (h : BedR w b n f) : b < w.heap.size := by obtain ⟨D, h, _⟩ := h; exact h.lt
theorem BedR.mono {w : World} {b n n' : Nat} {f : Int → Option Int} (h : BedR w b n f) (hn : n ≤ n') : BedR w b n' f := by obtain ⟨D, h, hr⟩ := h; exact ⟨D, h.mono hn, hr⟩
theorem BedR.made (w : World) : BedR (w.alloc (.map #[] 0)) w.heap.size 0 (fun _ => none) := ⟨.map [], World.ownsMap_made w Try.prog 3 _, fun x => ⟨rfl, fun v h => by cases h⟩⟩
structure MemV (w : World) (base : Nat) (own : Nat → Prop) (g bm : Nat) (vw vb vl vo : Value) (M : MS) : Prop where
  hg : w.heap[g]? = some (.cells #[vw, vb, vl, .map (some bm), vo] 137 (0, 0))
  og : own g
  bg : base ≤ g
  hw : Kd.R (Kd.int .u64) 29 w base own vw M.words
  hb : Kd.R (Kd.slice 143 k143) 57 w base own vb M.boxes
  hl : Kd.R (Kd.int .i64) 3 w base own vl M.latches
  ho : Kd.R k128 128 w base own vo M.log
  om : own bm
  bb : base ≤ bm
  hm : BedR w bm M.nb M.beds
def MemR (w : World) (base : Nat) (own : Nat → Prop) (g : Nat) (M : MS) : Prop := ∃ bm vw vb vl vo, MemV w base own g bm vw vb vl vo M
theorem MemV.step {w w' : World} {base : Nat} {own : Nat → Prop} {g bm : Nat} {vw vb vl vo : Value} {M : MS} (h : MemV w base own g bm vw vb vl vo M) (hm : ∀ k, own k → k < w.heap.size → w'.heap[k]? = w.heap[k]?) : MemV w' base own g bm vw vb vl vo M :=
  ⟨(hm g h.og (blk_lt h.hg)).trans h.hg, h.og, h.bg, Kd.R_step h.hw hm, Kd.R_step h.hb hm, Kd.R_step h.hl hm, Kd.R_step h.ho hm, h.om, h.bb, h.hm.same (hm bm h.om h.hm.lt)⟩
theorem MemR.step {w w' : World} {base : Nat} {own : Nat → Prop} {g : Nat} {M : MS} (h : MemR w base own g M) (hm : ∀ k, own k → k < w.heap.size → w'.heap[k]? = w.heap[k]?) : MemR w' base own g M := by
  obtain ⟨bm, vw, vb, vl, vo, h⟩ := h; exact ⟨bm, vw, vb, vl, vo, h.step hm⟩
theorem MemR.below {w w' : World} {base : Nat} {own : Nat → Prop} {g : Nat} {M : MS} (h : MemR w base own g M) (hb : Below w.heap.size w w') : MemR w' base own g M := h.step (fun k _ hk => hb.block k hk)
theorem MemR.kept {w w' : World} {base : Nat} {own : Nat → Prop} {S : Nat → Prop} {g : Nat} {M : MS} (h : MemR w base own g M) (hk : Kept w w' S) (hne : ∀ k, own k → ¬ S k) : MemR w' base own g M := h.step (fun k ho hlt => hk.2 k hlt (hne k ho))
theorem MemV.mono {w : World} {base : Nat} {own own' : Nat → Prop} {g bm : Nat} {vw vb vl vo : Value} {M : MS} (h : MemV w base own g bm vw vb vl vo M) (hm : ∀ k, own k → own' k) : MemV w base own' g bm vw vb vl vo M :=
  ⟨h.hg, hm _ h.og, h.bg, Kd.R_mono h.hw hm, Kd.R_mono h.hb hm, Kd.R_mono h.hl hm, Kd.R_mono h.ho hm, hm _ h.om, h.bb, h.hm⟩
theorem MemV.bound {w : World} {base : Nat} {own : Nat → Prop} {g bm : Nat} {vw vb vl vo : Value} {M : MS} (h : MemV w base own g bm vw vb vl vo M) : MemV w base (fun k => own k ∧ k < w.heap.size) g bm vw vb vl vo M :=
  ⟨h.hg, ⟨h.og, blk_lt h.hg⟩, h.bg, Kd.R_mono (Kd.R_bound h.hw) (fun k hk => ⟨hk.1, hk.2.2.1⟩), Kd.R_mono (Kd.R_bound h.hb) (fun k hk => ⟨hk.1, hk.2.2.1⟩), Kd.R_mono (Kd.R_bound h.hl) (fun k hk => ⟨hk.1, hk.2.2.1⟩), Kd.R_mono (Kd.R_bound h.ho) (fun k hk => ⟨hk.1, hk.2.2.1⟩), ⟨h.om, h.hm.lt⟩, h.bb, h.hm⟩
theorem MemV.cell {w : World} {base : Nat} {own : Nat → Prop} {g bm : Nat} {vw vb vl vo : Value} {M : MS} (h : MemV w base own g bm vw vb vl vo M) : w.cell? ⟨g, 0, none⟩ = some vw ∧ w.cell? ⟨g, 1, none⟩ = some vb ∧ w.cell? ⟨g, 2, none⟩ = some vl ∧ w.cell? ⟨g, 3, none⟩ = some (.map (some bm)) ∧ w.cell? ⟨g, 4, none⟩ = some vo ∧ w.frozen? ⟨g, 4, none⟩ = false := by
  refine ⟨?_, ?_, ?_, ?_, ?_, blk_frozen h.hg 4⟩ <;> (rw [blk_cell h.hg]; rfl)
theorem Asleep_V (who : Int) (hwho : (Lit.int .i64 who).wf = true) (W : World) {base : Nat} {own : Nat → Prop} {g bm : Nat} {vw vb vl vo : Value} {M : MS} (h : MemV W base own g bm vw vb vl vo M) : Calls Try.prog 44 #[.pointer (some ⟨g, 0, none⟩), .int .i64 who] W fun e w' => e = .returned (.bool (M.beds who).isSome) ∧ w' = W := by
  obtain ⟨-, -, -, hx3, -, -⟩ := h.cell
  obtain ⟨D, hD, hB⟩ := h.hm
  have HD := Aside0.mk hD
  have HB := Aside0.mk hB
  have HW := Aside0.mk hwho
  clear hD hB hwho h
  go_enter Try.func44, Try.ntmps44
  go_wp2_with (first | (at_lookup; refine wpList_lookup_own_ok_int _ rfl _ _ 125 rfl 3 3 .i64 law3 Try.underlying125 Try.underlying3 (Try.zeroValue3 _) bm _ D rfl HD.out _ _ rfl (keyOf_int_mk Try.underlying3 HW.out) ?_; intro c hat hwc; clear hat hwc))
  go_ret
  exact ⟨congrArg (fun b => Ending.returned (.bool b)) (HB.out who).1, rfl⟩
def MS.fits (M : MS) (who at_ n : Int) : Bool := decide (0 ≤ who) && decide (0 ≤ at_) && decide (at_ < n) && !(M.beds who).isSome
theorem fits_V (who at_ n : Int) (hwho : (Lit.int .i64 who).wf = true) (W : World) {base : Nat} {own : Nat → Prop} {g bm : Nat} {vw vb vl vo : Value} {M : MS} (h : MemV W base own g bm vw vb vl vo M) : Calls Try.prog 86 #[.pointer (some ⟨g, 0, none⟩), .int .i64 who, .int .i64 at_, .int .i64 n] W fun e w' => e = .returned (.bool (M.fits who at_ n)) ∧ w' = W := by
  have H := Aside0.mk h
  have HW := Aside0.mk hwho
  clear h hwho
  go_enter Try.func86, Try.ntmps86
  by_cases h1 : 0 ≤ who
  · by_cases h2 : 0 ≤ at_
    · by_cases h3 : at_ < n
      · have d1 := decide_eq_true h1
        have d2 := decide_eq_true h2
        have d3 := decide_eq_true h3
        go_wp2_with (first | (go_at_call 44; (with_reducible refine (Asleep_V who HW.out W H.out).mono ?_); rintro e w1 ⟨rfl, rfl⟩))
        go_ret
        exact ⟨by simp [MS.fits, h1, h2, h3], rfl⟩
      · have d1 := decide_eq_true h1
        have d2 := decide_eq_true h2
        have d3 := decide_eq_false h3
        go_wp2
        go_ret
        exact ⟨by rw [MS.fits, d3]; simp, rfl⟩
    · have d1 := decide_eq_true h1
      have d2 := decide_eq_false h2
      go_wp2
      go_ret
      exact ⟨by rw [MS.fits, d2]; simp, rfl⟩
  · have d1 := decide_eq_false h1
    go_wp2
    go_ret
    exact ⟨by rw [MS.fits, d1]; simp, rfl⟩
theorem Time_V (W : World) {base : Nat} {own : Nat → Prop} {g bm : Nat} {vw vb vl vo : Value} {M : MS} (h : MemV W base own g bm vw vb vl vo M) : Calls Try.prog 43 #[.pointer (some ⟨g, 0, none⟩)] W fun e w' => e = .returned (.int .i64 (M.log.length : Int)) ∧ w' = W := by
  obtain ⟨-, -, -, -, hx4, -⟩ := h.cell
  obtain ⟨A, c, rfl⟩ := Kd.R_slice h.ho
  clear h
  go_enter Try.func43, Try.ntmps43
  go_wp2
  go_ret
  exact ⟨rfl, rfl⟩
theorem R_any {α : Type} {d : Kd α} {e : Nat} {w : World} {base : Nat} {ok : Nat → Prop} {v : Value} {xs : List α} (h : Kd.R d e w base ok v xs) : ∃ A n c, v = .slice A n c := by
  obtain ⟨A, c, e⟩ := Kd.R_slice h
  exact ⟨A, _, c, e⟩
section
variable {w w1 : World} {base : Nat} {own : Nat → Prop} {g bm : Nat} {vw vb vl vo : Value} {M : MS}
theorem MemV.rest {row : Option Nat} {e : Nat} (h : MemV w base own g bm vw vb vl vo M) (hty : ∀ k, row = some k → ∃ cells, w.heap[k]? = some (.cells cells e (0, 0))) (hg : w.grownBy w1 row) :
    (e ≠ 137 → w1.heap[g]? = some (.cells #[vw, vb, vl, .map (some bm), vo] 137 (0, 0))) ∧ (e ≠ 29 → Kd.R (Kd.int .u64) 29 w1 base own vw M.words) ∧ (e ≠ 57 → e ≠ 143 → Kd.R (Kd.slice 143 k143) 57 w1 base own vb M.boxes) ∧ (e ≠ 3 → Kd.R (Kd.int .i64) 3 w1 base own vl M.latches) ∧ (e ≠ 128 → Kd.R k128 128 w1 base own vo M.log) ∧ BedR w1 bm M.nb M.beds := by
  have key : ∀ {α : Type} {d : Kd α} {q : Nat} {u : Value} {xs : List α}, Kd.R d q w base own u xs → (∀ t, t ∈ q :: d.E → t ≠ e) → Kd.R d q w1 base own u xs := by
    intro α d q u xs hR ht
    refine Kd.R_mono (Kd.R_step (Kd.R_bound hR) (fun k hk hlt => hg.block k hlt (fun hr => ?_))) (fun k hk => hk.1)
    obtain ⟨cells, hc⟩ := hty k hr.symm
    obtain ⟨t, hq, cells', hc'⟩ := hk.2.2.2
    rw [hc] at hc'
    injection hc' with hc'
    injection hc' with _ h2
    exact ht t hq h2.symm
  refine ⟨fun he => blk_grown h.hg hg (fun hr => ?_), fun he => key h.hw ?_, fun he he2 => key h.hb ?_, fun he => key h.hl ?_, fun he => key h.ho ?_, h.hm.kept hg (fun hr => ?_)⟩
  · obtain ⟨cells, hc⟩ := hty g hr.symm
    rw [h.hg] at hc
    injection hc with hc
    injection hc with _ h2
    exact he h2.symm
  · intro t ht; cases ht with
    | head => exact fun e2 => he e2.symm
    | tail _ ht => cases ht
  · intro t ht; cases ht with
    | head => exact fun e2 => he e2.symm
    | tail _ ht => cases ht with
      | head => exact fun e2 => he2 e2.symm
      | tail _ ht => cases ht
  · intro t ht; cases ht with
    | head => exact fun e2 => he e2.symm
    | tail _ ht => cases ht
  · intro t ht; cases ht with
    | head => exact fun e2 => he e2.symm
    | tail _ ht => cases ht
  · obtain ⟨cells, hc⟩ := hty bm hr.symm
    obtain ⟨D, ⟨es, cl, hb, _⟩, _⟩ := h.hm
    rw [hb] at hc
    cases hc
theorem MemV.put_w {ws : List Int} (h : MemV w base own g bm vw vb vl vo M) (hw : Kd.R (Kd.int .u64) 29 w1 base own vw ws) (hg : w.grownBy w1 vw.ownBlock) : MemV w1 base own g bm vw vb vl vo { M with words := ws } := by
  obtain ⟨h1, h2, h3, h4, h5, h6⟩ := h.rest (fun k hk => Kd.R_typed h.hw k hk) hg
  exact ⟨h1 (by decide), h.og, h.bg, hw, h3 (by decide) (by decide), h4 (by decide), h5 (by decide), h.om, h.bb, h6⟩
theorem MemV.put_b {bs : List (List S143)} (h : MemV w base own g bm vw vb vl vo M) (hb : Kd.R (Kd.slice 143 k143) 57 w1 base own vb bs) (hg : w.grownBy w1 vb.ownBlock) : MemV w1 base own g bm vw vb vl vo { M with boxes := bs } := by
  obtain ⟨h1, h2, h3, h4, h5, h6⟩ := h.rest (fun k hk => Kd.R_typed h.hb k hk) hg
  exact ⟨h1 (by decide), h.og, h.bg, h2 (by decide), hb, h4 (by decide), h5 (by decide), h.om, h.bb, h6⟩
theorem MemV.put_o {vo' : Value} {os : List S128} (h : MemV w base own g bm vw vb vl vo M) (ho : Kd.R k128 128 w1 base own vo' os) (hg : w.grownBy w1 vo.ownBlock) : MemV (w1.setCell ⟨g, 4, none⟩ vo') base own g bm vw vb vl vo' { M with log := os } := by
  obtain ⟨h1, h2, h3, h4, h5, h6⟩ := h.rest (fun k hk => Kd.R_typed h.ho k hk) hg
  have hb := h1 (by decide)
  refine ⟨blk_put hb 4 _ rfl, h.og, h.bg, Kd.R_set (h2 (by decide)) hb ?_ 4 _, Kd.R_set (h3 (by decide) (by decide)) hb ?_ 4 _, Kd.R_set (h4 (by decide)) hb ?_ 4 _, Kd.R_set ho hb ?_ 4 _, h.om, h.bb, h6.same (Below.heap_setCell w1 ⟨g, 4, none⟩ _ bm (fun e => ?_))⟩
  · intro t ht; cases ht with
    | head => decide
    | tail _ ht => cases ht
  · intro t ht; cases ht with
    | head => decide
    | tail _ ht => cases ht with
      | head => decide
      | tail _ ht => cases ht
  · intro t ht; cases ht with
    | head => decide
    | tail _ ht => cases ht
  · intro t ht; cases ht with
    | head => decide
    | tail _ ht => cases ht
  · obtain ⟨D, ⟨es, cl, hb2, _⟩, _⟩ := h6
    rw [e] at hb2
    rw [hb] at hb2
    cases hb2
end
def MemTo (W w' : World) (base : Nat) (own : Nat → Prop) (g bm : Nat) (vw vb vl : Value) (M : MS) : Prop := ∃ vo, MemV w' base own g bm vw vb vl vo M ∧ Kept W w' own ∧ Below base W w'
def MS.note (M : MS) (who kind at_ : Int) (ok : Bool) : MS := { M with log := M.log ++ [⟨who, kind, at_, ok⟩] }
set_option maxRecDepth 100000 in
set_option maxHeartbeats 1000000 in
theorem note_V (who kind at_ : Int) (ok : Bool) (W : World) {base : Nat} {own : Nat → Prop} {g bm : Nat} {vw vb vl vo : Value} {M : MS} (h : MemV W base own g bm vw vb vl vo M) (hf : ∀ k, W.heap.size ≤ k → own k) (hlog : M.log.length ≤ 1000000) :
    Calls Try.prog 87 #[.pointer (some ⟨g, 0, none⟩), .int .i64 who, .int .i64 kind, .int .i64 at_, .bool ok] W fun e w' => e = .returned (.tuple #[]) ∧ MemTo W w' base own g bm vw vb vl (M.note who kind at_ ok) := by
  obtain ⟨-, -, -, -, hx4, hz4⟩ := h.cell
  have hbase : base ≤ W.heap.size := Nat.le_trans h.bg (Nat.le_of_lt (blk_lt h.hg))
  have hne : some g ≠ vo.ownBlock := Kd.R_ne h.ho h.hg (by decide)
  have H := Aside0.mk h
  have HF := Aside0.mk hf
  have HB := Aside0.mk hbase
  have HN := Aside0.mk hne
  have HL := Aside0.mk hlog
  clear h hf hbase hne hlog hz4
  go_enter Try.func87, Try.ntmps87
  go_wp2_with (at_builtin; (refine Kd.R_append k128 (w0 := W) base rfl (.tmp 14) (.tmp 20) 33 128 (.agg #[(.int .i64 0), (.int .i64 0), (.int .i64 0), (.bool false)]) 32 rfl Try.underlying33 info128 rfl (by decide) (by omega) vo M.log (⟨who, kind, at_, ok⟩ : S128) [.int .i64 who, .int .i64 kind, .int .i64 at_, .bool ok] own (fun _ => False) rfl rfl (k128_mkM _ _ _ (⟨who, kind, at_, ok⟩ : S128)) (fun _ hk => hk.elim) HF.out H.out.ho (Below.refl _ _) HB.out (by have := HL.out; omega) ?_; intro v1 w1 ho1 hb1 hg1 hat1; obtain ⟨A1, n1, c1, rfl⟩ := R_any ho1; have hg2 := blk_grown H.out.hg hg1 HN.out; have hx : w1.cell? ⟨g, 4, none⟩ = some vo := (blk_cell hg2 4).trans rfl; have hz := blk_frozen hg2 4; have HG1 := Aside0.mk hg1; have HO1 := Aside0.mk ho1; have HB1 := Aside0.mk hb1; clear hx4 hg2 hg1 ho1 hb1 hat1))
  ((try simp only [Exit.inBlock, Exit.then]); first | refine bodyPost_ret (results_none rfl _ _ _) rfl ?_ | refine bodyPost_end (results_none rfl _ _ _) rfl ?_)
  refine ⟨rfl, _, H.out.put_o HO1.out HG1.out, ((Kept.refl W own).of_grown HG1.out (fun k hk => .inl (H.out.ho.1 k hk))).setCell (.inl H.out.og) _, HB1.out.setCell H.out.bg _⟩
theorem MemTo.of {W : World} {base : Nat} {own : Nat → Prop} {g bm : Nat} {vw vb vl vo : Value} {M : MS} (h : MemV W base own g bm vw vb vl vo M) : MemTo W W base own g bm vw vb vl M := ⟨vo, h, Kept.refl _ _, Below.refl _ _⟩
theorem fits_at {M : MS} {who at_ n : Int} (h : M.fits who at_ n = true) : 0 ≤ who ∧ 0 ≤ at_ ∧ at_ < n ∧ (M.beds who).isSome = false := by
  unfold MS.fits at h
  simp only [Bool.and_eq_true, decide_eq_true_eq, Bool.not_eq_true'] at h
  exact ⟨h.1.1.1, h.1.1.2, h.1.2, h.2⟩
def MS.store (M : MS) (who at_ v : Int) : MS := if M.fits who at_ (M.words.length : Int) = true then { M.note who 1 at_ true with words := M.words.set at_.toNat v } else M
set_option maxRecDepth 100000 in
set_option maxHeartbeats 1000000 in
theorem Store_V (who at_ v : Int) (hwho : (Lit.int .i64 who).wf = true) (W : World) {base : Nat} {own : Nat → Prop} {g bm : Nat} {vw vb vl vo : Value} {M : MS} (h : MemV W base own g bm vw vb vl vo M) (hf : ∀ k, W.heap.size ≤ k → own k) (hlog : M.log.length ≤ 1000000) :
    Calls Try.prog 32 #[.pointer (some ⟨g, 0, none⟩), .int .i64 who, .int .i64 at_, .int .u64 v] W fun e w' => e = .returned (.tuple #[]) ∧ MemTo W w' base own g bm vw vb vl (M.store who at_ v) := by
  obtain ⟨hx0, -, -, -, -, -⟩ := h.cell
  cases hq : M.fits who at_ (M.words.length : Int)
  · have e0 : M.store who at_ v = M := by unfold MS.store; rw [hq]; rfl
    rw [e0]
    obtain ⟨A, c, rfl⟩ := Kd.R_slice h.hw
    have H := Aside0.mk h
    have HW := Aside0.mk hwho
    clear h hf hlog hwho e0
    go_enter Try.func32, Try.ntmps32
    go_wp2_with (first | (go_at_call 86; (with_reducible refine (fits_V who at_ _ HW.out W H.out).mono ?_); rintro e w1 ⟨rfl, rfl⟩))
    ((try simp only [Exit.inBlock, Exit.then]); first | refine bodyPost_ret (results_none rfl _ _ _) rfl ?_ | refine bodyPost_end (results_none rfl _ _ _) rfl ?_)
    exact ⟨rfl, MemTo.of H.out⟩
  · obtain ⟨q0, q1, q2, -⟩ := fits_at hq
    have e0 : M.store who at_ v = { M.note who 1 at_ true with words := M.words.set at_.toNat v } := by unfold MS.store; rw [hq]; rfl
    rw [e0]
    obtain ⟨gw, cw, rfl, -⟩ := Kd.R_form h.hw (by omega)
    have H := Aside0.mk h
    have HW := Aside0.mk hwho
    have HF := Aside0.mk hf
    have HL := Aside0.mk hlog
    clear h hf hlog hwho e0
    go_enter Try.func32, Try.ntmps32
    go_wp2_with (first | (go_at_call 86; (with_reducible refine (fits_V who at_ _ HW.out W H.out).mono ?_); rintro e w1 ⟨rfl, rfl⟩) | (go_at_call 87; (with_reducible refine (note_V who 1 at_ true _ H.out HF.out HL.out).mono ?_); rintro e w1 ⟨rfl, vo1, hm1, hk1, hb1⟩; obtain ⟨hy0, -, -, -, -, -⟩ := hm1.cell; obtain ⟨hc1, hz1⟩ := Kd.R_celln 0 hm1.hw at_ q1 q2; have HM := Aside0.mk hm1; have HK := Aside0.mk hk1; have HB := Aside0.mk hb1; clear hx0 hm1 hk1 hb1))
    ((try simp only [Exit.inBlock, Exit.then]); first | refine bodyPost_ret (results_none rfl _ _ _) rfl ?_ | refine bodyPost_end (results_none rfl _ _ _) rfl ?_)
    have hp := Kd.R_putg HM.out.hw at_ v
    exact ⟨rfl, _, HM.out.put_w hp.1 hp.2, HK.out.setCell (.inl (HM.out.hw.1 gw rfl)) _, HB.out.setCell (Kd.R_base HM.out.hw gw rfl) _⟩
def MS.load (M : MS) (who at_ : Int) : Int := if M.fits who at_ (M.words.length : Int) = true then rd M.words at_ else 0
def MS.loadTo (M : MS) (who at_ : Int) : MS := if M.fits who at_ (M.words.length : Int) = true then M.note who 0 at_ true else M
set_option maxRecDepth 100000 in
set_option maxHeartbeats 1000000 in
theorem Load_V (who at_ : Int) (hwho : (Lit.int .i64 who).wf = true) (W : World) {base : Nat} {own : Nat → Prop} {g bm : Nat} {vw vb vl vo : Value} {M : MS} (h : MemV W base own g bm vw vb vl vo M) (hf : ∀ k, W.heap.size ≤ k → own k) (hlog : M.log.length ≤ 1000000) :
    Calls Try.prog 36 #[.pointer (some ⟨g, 0, none⟩), .int .i64 who, .int .i64 at_] W fun e w' => e = .returned (.int .u64 (M.load who at_)) ∧ MemTo W w' base own g bm vw vb vl (M.loadTo who at_) := by
  obtain ⟨hx0, -, -, -, -, -⟩ := h.cell
  cases hq : M.fits who at_ (M.words.length : Int)
  · have e0 : M.loadTo who at_ = M := by unfold MS.loadTo; rw [hq]; rfl
    have e1 : M.load who at_ = 0 := by unfold MS.load; rw [hq]; rfl
    rw [e0, e1]
    obtain ⟨A, c, rfl⟩ := Kd.R_slice h.hw
    have H := Aside0.mk h
    have HW := Aside0.mk hwho
    clear h hf hlog hwho e0 e1
    go_enter Try.func36, Try.ntmps36
    go_wp2_with (first | (go_at_call 86; (with_reducible refine (fits_V who at_ _ HW.out W H.out).mono ?_); rintro e w1 ⟨rfl, rfl⟩))
    go_ret
    exact ⟨rfl, MemTo.of H.out⟩
  · obtain ⟨q0, q1, q2, -⟩ := fits_at hq
    have e0 : M.loadTo who at_ = M.note who 0 at_ true := by unfold MS.loadTo; rw [hq]; rfl
    have e1 : M.load who at_ = rd M.words at_ := by unfold MS.load; rw [hq]; rfl
    rw [e0, e1]
    obtain ⟨gw, cw, rfl, -⟩ := Kd.R_form h.hw (by omega)
    have H := Aside0.mk h
    have HW := Aside0.mk hwho
    have HF := Aside0.mk hf
    have HL := Aside0.mk hlog
    clear h hf hlog hwho e0 e1
    go_enter Try.func36, Try.ntmps36
    go_wp2_with (first | (go_at_call 86; (with_reducible refine (fits_V who at_ _ HW.out W H.out).mono ?_); rintro e w1 ⟨rfl, rfl⟩) | (go_at_call 87; (with_reducible refine (note_V who 0 at_ true _ H.out HF.out HL.out).mono ?_); rintro e w1 ⟨rfl, vo1, hm1, hk1, hb1⟩; obtain ⟨hy0, -, -, -, -, -⟩ := hm1.cell; obtain ⟨hc1, -⟩ := Kd.R_celln 0 hm1.hw at_ q1 q2; have HM := Aside0.mk (show MemTo _ _ _ _ _ _ _ _ _ _ from ⟨vo1, hm1, hk1, hb1⟩); clear hx0 hm1 hk1 hb1))
    go_ret
    exact ⟨rfl, HM.out⟩
set_option maxRecDepth 100000
theorem BedIs.put {D : DataW Unit} {f : Int → Option Int} (hm : IsMap D) (h : BedIs D f) (x v : Int) : BedIs (D.put (.int .i64 x) (.lit (.int .i64 v))) (upd f x (some v)) := by
  intro y
  by_cases e : y = x
  · subst e
    refine ⟨by rw [has_put_same (k := .int .i64 y) hm trivial]; simp [upd], fun v' hv z => ?_⟩
    rw [atKey_put_same (k := .int .i64 y) hm trivial]
    simp [upd] at hv
    rw [hv]
  · refine ⟨by rw [has_put_other (keyI_ne e)]; simp [upd, e]; exact (h y).1, fun v' hv z => ?_⟩
    rw [atKey_put_other (keyI_ne e)]
    simp [upd, e] at hv
    exact (h y).2 v' hv z
def MS.up (M : MS) (at_ : Int) : Int → Option Int := fun x => if M.beds x = some at_ then none else M.beds x
def outOf (f : Int → Option Int) (V : List Int) : Int → Option Int := fun x => if x ∈ V then none else f x
theorem BedIs.del {D : DataW Unit} {f : Int → Option Int} {V : List Int} (h : BedIs D (outOf f V)) (x : Int) : BedIs (D.del (.int .i64 x)) (outOf f (x :: V)) := by
  intro y
  by_cases e : y = x
  · subst e
    exact ⟨by rw [has_del_same]; simp [outOf], fun v hv => by simp [outOf] at hv⟩
  · have e1 : outOf f (x :: V) y = outOf f V y := by simp [outOf, e]
    rw [e1]
    refine ⟨by rw [has_del_other (keyI_ne e)]; exact (h y).1, fun v hv z => ?_⟩
    rw [atKey_del_other (keyI_ne e)]
    exact (h y).2 v hv z
theorem BedIs.of_at {D : DataW Unit} {f : Int → Option Int} (h : BedIs D f) {x c : Int} (hat : ∀ z, D.atKey (.int .i64 x) z = .lit (.int .i64 c)) : f x = some c := by
  have h1 : Maps.has D (.int .i64 x) = true := has_true_of_atKey hat
  rw [(h x).1] at h1
  obtain ⟨v, hv⟩ := Option.isSome_iff_exists.1 h1
  have h2 := (h x).2 v hv .nil
  rw [hat] at h2
  injection h2 with h2
  injection h2 with _ h2
  rw [hv, h2]
structure Waking (f : Int → Option Int) (at_ : Int) (D : DataW Unit) (left : Lit → Bool) (V : List Int) : Prop where
  bed : BedIs D (outOf f V)
  nd : V.Nodup
  of : ∀ x ∈ V, f x = some at_
  to_ : ∀ x, outOf f V x = some at_ → left (.int .i64 x) = true
theorem Waking.start {f : Int → Option Int} {at_ : Int} {D : DataW Unit} (h : BedIs D f) : Waking f at_ D (Maps.has D) [] := by
  have e : outOf f [] = f := funext fun x => by simp [outOf]
  refine ⟨by rw [e]; exact h, List.nodup_nil, fun x hx => (List.not_mem_nil hx).elim, fun x hx => ?_⟩
  rw [e] at hx
  rw [(h x).1, hx]; rfl
theorem Waking.all {f : Int → Option Int} {at_ : Int} {D : DataW Unit} {left : Lit → Bool} {V : List Int} (h : Waking f at_ D left V) (hl : ∀ k, left k = false) : outOf f V = (fun x => if f x = some at_ then none else f x) ∧ ∀ x, x ∈ V ↔ f x = some at_ := by
  have key : ∀ x, x ∈ V ↔ f x = some at_ := fun x => ⟨h.of x, fun hx => by
    by_cases hv : x ∈ V
    · exact hv
    · have := h.to_ x (by unfold outOf; rw [if_neg hv]; exact hx)
      rw [hl] at this; cases this⟩
  exact ⟨funext fun x => by unfold outOf; simp only [key], key⟩
theorem Waking.skip {f : Int → Option Int} {at_ x c : Int} {D : DataW Unit} {left : Lit → Bool} {V : List Int} (h : Waking f at_ D left V) (hat : ∀ z, D.atKey (.int .i64 x) z = .lit (.int .i64 c)) (hc : c ≠ at_) : Waking f at_ D (fun z => left z && !z.sameKey (.int .i64 x)) V := by
  refine ⟨h.bed, h.nd, h.of, fun y hy => ?_⟩
  have hne : y ≠ x := fun e => by subst e; rw [h.bed.of_at hat] at hy; exact hc (Option.some.inj hy)
  show (left (.int .i64 y) && !(Lit.int .i64 y).sameKey (.int .i64 x)) = true
  rw [h.to_ y hy, sameKey_ne (keyI_ne hne)]; rfl
theorem Waking.hit {f : Int → Option Int} {at_ x : Int} {D : DataW Unit} {left : Lit → Bool} {V : List Int} (h : Waking f at_ D left V) (hat : ∀ z, D.atKey (.int .i64 x) z = .lit (.int .i64 at_)) : Waking f at_ (D.del (.int .i64 x)) (fun z => (left z && !z.sameKey (.int .i64 x)) && !z.sameKey (.int .i64 x)) (x :: V) := by
  have hx := h.bed.of_at hat
  have hxV : x ∉ V := fun hv => by unfold outOf at hx; rw [if_pos hv] at hx; cases hx
  refine ⟨h.bed.del x, List.nodup_cons.2 ⟨hxV, h.nd⟩, fun y hy => ?_, fun y hy => ?_⟩
  · rcases List.mem_cons.1 hy with rfl | hy
    · unfold outOf at hx; rw [if_neg hxV] at hx; exact hx
    · exact h.of y hy
  · have hne : y ≠ x := fun e => by subst e; simp [outOf] at hy
    have hy2 : outOf f V y = some at_ := by simpa [outOf, hne] using hy
    show ((left (.int .i64 y) && !(Lit.int .i64 y).sameKey (.int .i64 x)) && !(Lit.int .i64 y).sameKey (.int .i64 x)) = true
    rw [h.to_ y hy2, sameKey_ne (keyI_ne hne)]; rfl
/-! ### bits_Mul64: function 121 -/
def bits_Mul64.f (a0 : Int) (a1 : Int) : Option (Int × Int) := some (IntKind.u64.wrap ((IntKind.u64.wrap ((IntKind.u64.wrap ((a0 / 4294967296) * (a1 / 4294967296))) + ((IntKind.u64.wrap ((IntKind.u64.wrap ((a0 / 4294967296) * (Go.bits .and .u64 a1 4294967295))) + ((IntKind.u64.wrap ((Go.bits .and .u64 a0 4294967295) * (Go.bits .and .u64 a1 4294967295))) / 4294967296))) / 4294967296))) + ((IntKind.u64.wrap ((Go.bits .and .u64 (IntKind.u64.wrap ((IntKind.u64.wrap ((a0 / 4294967296) * (Go.bits .and .u64 a1 4294967295))) + ((IntKind.u64.wrap ((Go.bits .and .u64 a0 4294967295) * (Go.bits .and .u64 a1 4294967295))) / 4294967296))) 4294967295) + (IntKind.u64.wrap ((Go.bits .and .u64 a0 4294967295) * (a1 / 4294967296))))) / 4294967296)), IntKind.u64.wrap (a0 * a1))
set_option maxHeartbeats 8000000 in
set_option maxRecDepth 100000 in
theorem bits_Mul64.calls (a0 : Int) (a1 : Int) (r1 : Int) (r2 : Int) (w : World) (h : bits_Mul64.f a0 a1 = some (r1, r2)) :
    Calls Try.prog 121 #[.int .u64 a0, .int .u64 a1] w fun e w' => e = .returned (.tuple #[.int .u64 r1, .int .u64 r2]) ∧ Drawn0 w w' := by
  have H : (some (IntKind.u64.wrap ((IntKind.u64.wrap ((IntKind.u64.wrap ((a0 / 4294967296) * (a1 / 4294967296))) + ((IntKind.u64.wrap ((IntKind.u64.wrap ((a0 / 4294967296) * (Go.bits .and .u64 a1 4294967295))) + ((IntKind.u64.wrap ((Go.bits .and .u64 a0 4294967295) * (Go.bits .and .u64 a1 4294967295))) / 4294967296))) / 4294967296))) + ((IntKind.u64.wrap ((Go.bits .and .u64 (IntKind.u64.wrap ((IntKind.u64.wrap ((a0 / 4294967296) * (Go.bits .and .u64 a1 4294967295))) + ((IntKind.u64.wrap ((Go.bits .and .u64 a0 4294967295) * (Go.bits .and .u64 a1 4294967295))) / 4294967296))) 4294967295) + (IntKind.u64.wrap ((Go.bits .and .u64 a0 4294967295) * (a1 / 4294967296))))) / 4294967296)), IntKind.u64.wrap (a0 * a1))) = some (r1, r2) := h
  clear h
  simp only [Option.some.injEq, Prod.mk.injEq] at H
  obtain ⟨rfl, rfl⟩ := H
  go_enter Try.func121, Try.ntmps121
  go_wp2
  go_ret2
  exact ⟨by first | rfl | (simp; done) | (simp [*]; done), by repeat (first | exact Drawn0.refl _ | apply Drawn0.step)⟩
/-! ### bits_Mul: function 108 -/
def bits_Mul.f (a0 : Int) (a1 : Int) : Option (Int × Int) := (bits_Mul64.f a0 a1).bind fun bt233 => (some (bt233.1, bt233.2))
set_option maxHeartbeats 8000000 in
set_option maxRecDepth 100000 in
theorem bits_Mul.calls (a0 : Int) (a1 : Int) (r1 : Int) (r2 : Int) (w : World) (h : bits_Mul.f a0 a1 = some (r1, r2)) :
    Calls Try.prog 108 #[.int .u64 a0, .int .u64 a1] w fun e w' => e = .returned (.tuple #[.int .u64 r1, .int .u64 r2]) ∧ Drawn0 w w' := by
  have H : ((bits_Mul64.f a0 a1).bind fun bt233 => (some (bt233.1, bt233.2))) = some (r1, r2) := h
  clear h
  replace H := Option.bind_eq_some_iff.mp H
  obtain ⟨⟨t233, t234⟩, A30, H⟩ := H
  replace H : (some (t233, t234)) = some (r1, r2) := H
  have A3 := Aside0.mk A30
  clear A30
  simp only [Option.some.injEq, Prod.mk.injEq] at H
  obtain ⟨rfl, rfl⟩ := H
  go_enter Try.func108, Try.ntmps108
  go_wp2_with (first | ((with_reducible refine gate_callee (f := 121) rfl ?_); refine goesL_ (some 25) rfl rfl Try.func121 (by kernel_rfl) rfl #[.int .u64 a0, .int .u64 a1] rfl (by (try simp only [List.map_toArray, List.map_cons, List.map_nil]); first | done | rfl | (simp only [List.length_drop, List.length_take]; rfl)) ?_; (with_reducible refine (bits_Mul64.calls a0 a1 t233 t234 _ A3.out).mono ?_); rintro e w' ⟨rfl, ⟨nd, rfl⟩⟩; refine ⟨_, rfl, ?_⟩))
  go_ret2
  exact ⟨by first | rfl | (simp; done) | (simp [*]; done), by repeat (first | exact Drawn0.refl _ | apply Drawn0.step)⟩
end Go.Proofs.Ytlcnckbmolefpaa.P
end
