/- Walks and laws of several statements of this seat, joined into one text; no condition. -/
import Derived.Test.YtlcnckbmolefpaaProg
import Derived.Below
import Derived.Deep.Draws
import Derived.Deep.AppendLies
import Derived.Maps.AppendAt
import Derived.OwnWalk
import Derived.Laws.BytesArg
import Derived.Laws.MakeOwn
import Derived.Laws.OwnMore
import Derived.Deep.OwnRows
import Derived.Tactics
import Derived.Lib.ConvBytes
import Derived.Laws.Slices
import Derived.WalkKit
import Derived.KernelRfl
import Derived.RowKit3
import Derived.Deep.LoopGhost
import Derived.Deep.QuietTactic
import Derived.BigQuiet
import Derived.WideLaws
import Derived.Deep.DeepCutAuto
import Derived.Deep.CutBlock
import Derived.Deep.RegionHeld3
import Derived.Laws.Rows
import Derived.Lib.AppendStr
import Derived.ArgAppend
import Derived.Laws.IdiomCopy
import Derived.OrdersHeld
import Derived.Laws.BitsLemmas
import Derived.RowKit
import Derived.Laws.StructEq
import Derived.Maps.RangeWalk
import Derived.Maps.OwnRows
import Derived.Maps.Views
import Derived.Maps.OwnSet
import Derived.IntWalk
import Derived.Shelf.SlMaps.Clone
import Derived.Laws.CopyOwn
import Derived.Deep.RegionLaw
import Derived.LoopTactic
import Derived.Outline
import Derived.Lib.BufferMore
import Derived.Deep.CutRange
import Derived.Lib.Zigzag
import Derived.Laws.EntriesVeiled
import Derived.Deep.Slices
import Derived.SizedLaws
import Derived.OpenShut
import Derived.Lib.SmallJoins
import Derived.Test.YtlcnckbmolefpaaSKa0
import Derived.Test.YtlcnckbmolefpaaSKa1
import Derived.Test.YtlcnckbmolefpaaSKa2
section
namespace Go.Proofs.Ytlcnckbmolefpaa.P
open Go.RowKit Go.Maps Go.Proofs.Ytlcnckbmolefpaa.CK Go.Proofs.YtlcnckbmolefpaaW.PrintWords Go.Proofs.YtlcnckbmolefpaaW.PrintLast Go.Proofs.YtlcnckbmolefpaaW.PrintMore
attribute [local go_sem] max2_int min2_int max_two min_two
set_option linter.unusedVariables false
set_option linter.unusedSimpArgs false
set_option maxRecDepth 100000
theorem Same13_C (X : List Int) (w : World) {A0 A1 : Option Addr} {c0 c1 : Nat} (h0 : Kd.C (Kd.int .u64) w A0 X.length X) (hc0 : X.length ≤ c0) (h1 : Kd.C (Kd.int .u64) w A1 X.length X) (hc1 : X.length ≤ c1) (hl : X.length ≤ 1000000) :
    Calls Try.prog 73 #[.slice A0 X.length c0, .slice A1 X.length c1] w fun e w' => e = .returned (.bool true) ∧ Below w.heap.size w w' := by
  obtain ⟨k, hk⟩ := ssame_ok hl
  refine (marchlandref13_Same.calls k A0 c0 X A1 c1 X true w h0 hc0 h1 hc1 hk).mono ?_
  rintro e w' ⟨rfl, hd⟩
  exact ⟨rfl, Drawn0.below hd⟩
theorem p10 : ∀ p ∈ ([1, 0] : List Int), 0 ≤ p ∧ p < 2 := fun p hp => by
  rcases List.mem_cons.1 hp with rfl | hp
  · decide
  · rw [List.mem_singleton.1 hp]; decide
set_option maxHeartbeats 4000000 in
theorem told13_C (W : World) : Calls Try.prog 66 #[] W fun e w' => e = .returned (.bool true) ∧ Below W.heap.size W w' := by
  go_enter Try.func66, Try.ntmps66
  go_upto_region 4 with (first | (go_at_call 65; ((refine (sbegin_C 2 2 (by decide) (by decide) W).mono ?_); rintro e w1 ⟨gm, gs, own, rfl, hsg, hb⟩; have HS1 := Aside0.mk hsg; have HB1 := Aside0.mk hb; clear hsg hb)))
  have HAL := Aside0.mk (below_alloc (Below.refl w1.heap.size w1) (.cells #[.int .i64 1, .int .i64 0] 3))
  have RA := Aside0.mk (Read_C (P := [1, 0]) 0 (some ⟨w1.heap.size, 0, none⟩) 2 (HS1.out.below HAL.out) (Kd.R_reads' (lit2_i w1 1 0)).2.2 (by decide) (by decide) p10 (by decide))
  go_upto_region 5 with (first | (go_at_call 72; ((refine RA.out.mono ?_); rintro e w2 ⟨na, vp, vt, op, ot, rfl, hna, hsp, h1, h2, hb⟩; have HA2 := Aside0.mk hsp; have HB2 := Aside0.mk (below_step (below_step HB1.out HAL.out) hb); clear hna hsp h1 h2 hb)))
  clear RA HAL HS1
  have FA := Aside0.mk (rd_finish (T := [0, 0]) (v := 0) HA2.out (by decide) rfl ⟨Int.le_refl 0, show (Lit.int .i64 0).wf = true by decide⟩ (by decide) (by decide) p10 (by decide))
  go_upto_region 6 with (first | (go_at_call 69; ((refine FA.out.mono ?_); rintro e w3 ⟨rfl, L3, hL3, o3, hsp3, hk3⟩; have HA3 := Aside0.mk hsp3; have HL3 := Aside0.mk hL3; have HB3 := Aside0.mk (HB2.out.trans hk3.2.2); have TA := Aside0.mk (STimes_C hsp3.a rfl rfl (by decide)); clear hsp3 hk3 hL3)) | (go_at_call 74; ((refine TA.out.mono ?_); rintro e w4 ⟨v4, rfl, hr4, hb4⟩; obtain ⟨A4, n4, c4, rfl⟩ := R_any hr4; obtain ⟨e4, h4, hC4⟩ := Kd.R_reads' hr4; obtain rfl : n4 = 2 := e4; have HA4 := Aside0.mk (HA3.out.below hb4); have HB4 := Aside0.mk (below_step HB3.out hb4); have HAL := Aside0.mk (below_alloc (Below.refl w4.heap.size w4) (.cells #[.int .u64 0, .int .u64 0] 29)); have SA := Aside0.mk (Same13_C [0, 0] (w4.alloc (.cells #[.int .u64 0, .int .u64 0] 29)) (Kd.C_below hC4 HAL.out) h4 (Kd.R_reads' (lit2_u w4 0 0)).2.2 (Nat.le_refl 2) (by decide)); clear hr4 hb4 h4 hC4)) | (go_at_call 73; ((refine SA.out.mono ?_); rintro e w5 ⟨rfl, hb5⟩; have HA5 := Aside0.mk ((HA4.out.below HAL.out).below hb5); have HB5 := Aside0.mk (below_step (below_step HB4.out HAL.out) hb5); have VA := Aside0.mk (SVain_C HA5.out.a.act); clear hb5)) | (go_at_call 70; ((refine VA.out.mono ?_); rintro e w6 ⟨rfl, hw6⟩; obtain rfl := hw6.symm)))
  clear FA TA SA VA HA4 HA3 HB2 HB3 HB4 HAL
  have HAL := Aside0.mk (below_alloc (Below.refl w5.heap.size w5) (.cells #[.int .u64 5, .int .u64 9] 29))
  have PB := Aside0.mk (Publish_C (X := [5, 9]) 1 (some ⟨w5.heap.size, 0, none⟩) 2 (HA5.out.g.below HAL.out) (Kd.R_reads' (lit2_u w5 5 9)).2.2 (by decide) (by decide) rfl (by decide))
  go_upto_region 7 with (first | (go_at_call 68; ((refine PB.out.mono ?_); rintro e w7 ⟨nb, vb, opb, otb, rfl, hnb, hsp, h1, h2, hb⟩; have HS7 := Aside0.mk hsp; have HA7 := Aside0.mk (((HA5.out.a).below HAL.out).below hb); have HD1 := Aside0.mk (((HA5.out.a).below HAL.out).newer hnb h2); have HB7 := Aside0.mk (below_step (below_step HB5.out HAL.out) hb); clear hnb hsp h1 h2 hb)))
  clear PB HAL HA5 HB5
  have HAL := Aside0.mk (below_alloc (Below.refl w7.heap.size w7) (.cells #[.int .i64 1, .int .i64 0] 3))
  have RC := Aside0.mk (Read_C (P := [1, 0]) 0 (some ⟨w7.heap.size, 0, none⟩) 2 (HS7.out.g.below HAL.out) (Kd.R_reads' (lit2_i w7 1 0)).2.2 (by decide) (by decide) p10 (by decide))
  go_upto_region 8 with (first | (go_at_call 72; ((refine RC.out.mono ?_); rintro e w8 ⟨nc, vpc, vtc, opc, otc, rfl, hnc, hsp, h1, h2, hb⟩; have HC8 := Aside0.mk hsp; have HS8 := Aside0.mk ((HS7.out.below HAL.out).below hb); have HA8 := Aside0.mk ((HA7.out.below HAL.out).below hb); have HD2 := Aside0.mk ((HA7.out.below HAL.out).newer hnc h2); have HD3 := Aside0.mk ((HS7.out.a.below HAL.out).newer hnc h2); have HD4 := Aside0.mk ((HS7.out.a.below HAL.out).older hnc h1 h2); have HB8 := Aside0.mk (below_step (below_step HB7.out HAL.out) hb); clear hnc hsp h1 h2 hb)))
  clear RC HAL HS7 HA7 HB7
  have FB := Aside0.mk (pub_finish (T := [0, 0]) (v := 0) HS8.out rfl ⟨Int.le_refl 0, by decide⟩ rfl rfl ⟨(by decide : (0 : Int) ≤ 1), show (Lit.int .i64 1).wf = true by decide⟩ (by decide) (by rw [show L3.length = 4 from HL3.out]; decide))
  have hL3n : L3.length = 4 := HL3.out
  go_wp2_with (first | (go_at_call 69; ((with_reducible refine FB.out.mono ?_); rintro e w9 ⟨rfl, L9, hL9, o9, hsp9, hk9⟩; have hL9n : L9.length = 10 := hL9.trans (by rw [hL3n]; rfl); have HS9 := Aside0.mk hsp9; have HC9 := Aside0.mk (HC8.out.a.beside hk9 HD4.out); have HA9 := Aside0.mk (HA8.out.beside hk9 HD1.out); have HB9 := Aside0.mk (HB8.out.trans hk9.2.2); have FC := Aside0.mk (rd_finish (T := [5, 9]) (v := 0 + 1 + 1) ⟨hsp9.g, HC9.out⟩ (by decide) rfl ⟨Int.le_refl 0, show (Lit.int .i64 0).wf = true by decide⟩ (by decide) (by decide) p10 (by rw [hL9n]; decide)); clear hL9 hsp9 hk9)) | (go_at_call 69; ((with_reducible refine FC.out.mono ?_); rintro e w10 ⟨rfl, L10, hL10, o10, hsp10, hk10⟩; have HC10 := Aside0.mk hsp10.a; have HS10 := Aside0.mk (HS9.out.a.beside hk10 HD3.out); have HA10 := Aside0.mk (HA9.out.beside hk10 HD2.out); have HB10 := Aside0.mk (HB9.out.trans hk10.2.2); have TC := Aside0.mk (STimes_C hsp10.a rfl rfl (by decide)); clear hL10 hsp10 hk10)) | (go_at_call 74; ((with_reducible refine TC.out.mono ?_); rintro e w11 ⟨v4, rfl, hr4, hb4⟩; obtain ⟨A4, n4, c4, rfl⟩ := R_any hr4; obtain ⟨e4, h4, hC4⟩ := Kd.R_reads' hr4; obtain rfl : n4 = 2 := e4; have HAL := Aside0.mk (below_alloc (Below.refl w11.heap.size w11) (.cells #[.int .u64 9, .int .u64 5] 29)); have HB11 := Aside0.mk (below_step hb4 HAL.out); have SC := Aside0.mk (Same13_C [9, 5] (w11.alloc (.cells #[.int .u64 9, .int .u64 5] 29)) (Kd.C_below hC4 HAL.out) h4 (Kd.R_reads' (lit2_u w11 9 5)).2.2 (Nat.le_refl 2) (by decide)); clear hr4 hb4 h4 hC4)) | (go_at_call 73; ((refine SC.out.mono ?_); rintro e w12 ⟨rfl, hb5⟩; have HB12 := Aside0.mk (below_step HB11.out hb5); have MC := Aside0.mk (show Calls Try.prog 77 #[.pointer (some ⟨nc, 0, none⟩)] w12 (fun e w' => e = .returned (.int .i64 14) ∧ w' = w12) from by have h := SMark_C ((HC10.out.below HB12.out).act); rw [show ((L9.length + [(1 : Int), 0].length + 2 : Nat) : Int) = 14 by rw [hL9n]; rfl] at h; exact h); have MB := Aside0.mk (show Calls Try.prog 77 #[.pointer (some ⟨nb, 0, none⟩)] w12 (fun e w' => e = .returned (.int .i64 9) ∧ w' = w12) from by have h := SMark_C ((HS10.out.below HB12.out).act); rw [show ((L3.length + [(5 : Int), 9].length + 3 : Nat) : Int) = 9 by rw [hL3n]; rfl] at h; exact h); have MA := Aside0.mk (show Calls Try.prog 77 #[.pointer (some ⟨na, 0, none⟩)] w12 (fun e w' => e = .returned (.int .i64 4) ∧ w' = w12) from SMark_C ((HA10.out.below HB12.out).act)); have HBE := Aside0.mk (below_step HB10.out HB12.out); clear hb5)) | (go_at_call 77; ((with_reducible refine MC.out.mono ?_); rintro e w13 ⟨rfl, hw⟩; obtain rfl := hw.symm)) | (go_at_call 77; ((with_reducible refine MB.out.mono ?_); rintro e w13 ⟨rfl, hw⟩; obtain rfl := hw.symm)) | (go_at_call 77; ((with_reducible refine MA.out.mono ?_); rintro e w13 ⟨rfl, hw⟩; obtain rfl := hw.symm)))
  go_ret
  exact ⟨rfl, HBE.out⟩
set_option maxRecDepth 100000
theorem alloc_drew (w : World) (o : Obj) : (w.alloc o).drew = w.drew.alloc o := rfl
theorem readV_take {T P : List Int} {i p : Nat} (hi : i < P.length) (hp : rd P (i : Int) = (p : Int)) : (readV T P).take i ++ [T[p]?.getD 0] = (readV T P).take (i + 1) := by
  have h1 : i < (readV T P).length := by rw [readV_len]; exact hi
  have h2 : P[i] = (p : Int) := by rw [rd_nat, List.getElem?_eq_getElem hi] at hp; exact hp
  have h3 : (readV T P)[i]? = some (T[p]?.getD 0) := by unfold readV; rw [List.getElem?_map, List.getElem?_eq_getElem hi, h2]; show some (T[((p : Int)).toNat]?.getD 0) = _; rw [Int.toNat_natCast]
  rw [List.take_add_one, h3]
  rfl
set_option maxHeartbeats 2000000 in
theorem SRead_C (T P : List Int) (W : World) {gw : Nat} {At Ap : Option Addr} {ct cp : Nat} (hw : W.cell? ⟨gw, 0, none⟩ = some (.slice At T.length ct)) (hT : Kd.C (Kd.int .u64) W At T.length T) (hP : Kd.C (Kd.int .i64) W Ap P.length P) (hin : ∀ p ∈ P, 0 ≤ p ∧ p < (T.length : Int)) (hl : P.length ≤ 1000 ∧ T.length ≤ 1000) :
    Calls Try.prog 75 #[.pointer (some ⟨gw, 0, none⟩), .slice Ap P.length cp] W fun e w' => ∃ v, e = .returned v ∧ Kd.R (Kd.int .u64) 29 w' W.heap.size (fun _ => True) v (readV T P) ∧ Below W.heap.size W w' := by
  have HW := Aside0.mk hw
  have HT := Aside0.mk hT
  have HP := Aside0.mk hP
  have HIN := Aside0.mk hin
  have HL := Aside0.mk hl
  clear hw hT hP hin hl
  go_enter Try.func75, Try.ntmps75
  go_wp2
  go_loopw [5, 6] (fun v5 v6 wr => ∃ i : Nat, v6 = .int .i64 (i : Int) ∧ Aside0 (i ≤ P.length ∧ Kd.R (Kd.int .u64) 29 wr W.heap.size (fun _ => True) v5 ((readV T P).take i) ∧ Below W.heap.size W wr)) (fun v5 v6 _ => (2000 - intOf v6).toNat)
  case atStart => exact ⟨0, rfl, ⟨Nat.zero_le _, Kd.R_nil _ _ _ _ _, Below.refl _ _⟩⟩
  case round =>
    obtain ⟨i, rfl, HI⟩ := hrel
    by_cases hi : i < P.length
    · have d1 := decide_eq_true (show (i : Int) < (P.length : Int) by omega)
      have q0 : (0 : Int) ≤ (i : Int) := by omega
      have q1 : (i : Int) < (P.length : Int) := by omega
      have hwi : IntKind.i64.wrap ((i : Int) + 1) = (i : Int) + 1 := by have := HL.out; rw [IntKind.wrap_i64]; omega
      obtain ⟨p, hp⟩ : ∃ p : Nat, rd P (i : Int) = (p : Int) := ⟨(rd P (i : Int)).toNat, by have := HIN.out _ (rd_in hi); omega⟩
      have hpt : p < T.length := by have := HIN.out _ (rd_in hi); omega
      have q2 : (0 : Int) ≤ (p : Int) := by omega
      have q3 : (p : Int) < (T.length : Int) := by omega
      obtain ⟨adP, rfl, hxp⟩ := Kd.at_int HP.out (i : Int) q0 q1
      obtain ⟨adT, rfl, hxt⟩ := Kd.at_int HT.out (p : Int) q2 q3
      rw [Int.toNat_natCast, hp] at hxp
      rw [Int.toNat_natCast, rd_nat] at hxt
      have hnx := readV_take (T := T) hi hp
      obtain ⟨x, hx⟩ : ∃ x, T[p]?.getD 0 = x := ⟨_, rfl⟩
      rw [hx] at hxt hnx
      have HNX := Aside0.mk hnx
      clear hx hnx
      have HHI := Aside0.mk hi
      have HSS := Aside0.mk (fun w' (hb : Below W.heap.size W w') => (show w'.cell? ⟨gw, 0, none⟩ = some (.slice (some adT) T.length ct) ∧ w'.cell? (adP.add i) = some (.int .i64 (p : Int)) ∧ w'.cell? (adT.add p) = some (.int .u64 (x)) from
        ⟨(hb.cell (p := ⟨gw, 0, none⟩) (World.block_lt_of_cell? W _ HW.out)).trans HW.out, (hb.cell (World.block_lt_of_cell? W _ hxp)).trans hxp, (hb.cell (World.block_lt_of_cell? W _ hxt)).trans hxt⟩))
      clear hi hp hxp hxt
      go_upto_region 5 with fail
      go_region_held3 (fun w' => w'.cell? ⟨gw, 0, none⟩ = some (.slice (some adT) T.length ct) ∧ w'.cell? (adP.add i) = some (.int .i64 (p : Int)) ∧ w'.cell? (adT.add p) = some (.int .u64 (x)))
        (first | exact HSS.out _ HI.out.2.2 | exact HSS.out _ (below_drew HI.out.2.2) | exact HSS.out _ (below_alloc (below_drew HI.out.2.2) _) | exact HSS.out _ (below_drew (below_alloc HI.out.2.2 _)) | exact HSS.out _ HB6.out)
        (first | (rw [alloc_drew]; refine Kd.R_append_step (Kd.int .u64) (w0 := W) W.heap.size (by rfl) (.tmp 13) (.tmp 24) 44 29 (.int .u64 0) 8 rfl Try.underlying44 info29 rfl (by decide) (by omega) _ ((readV T P).take i) (x) [.int .u64 (x)] (fun _ => True) (fun _ => False) rfl rfl ?aP (fun _ hk => hk.elim) ?aF ?aO ?aB ?aS ?aL ?_; (case aP => exact rfl); (case aB => exact (below_drew HI.out.2.2)); (case aF => exact (fun _ _ => trivial)); (case aO => exact (Kd.R_drew HI.out.2.1)); (case aS => exact (below_drew HI.out.2.2).size); (case aL => have := HL.out; have := HI.out.1; rw [List.length_take]; omega); intro v7 w6 ho hb hg hat; have HB6 := Aside0.mk hb; have HO6 := Aside0.mk ho; clear ho hb hg hat))
      go_wp2
      go_roundw
      case rel => exact ⟨i + 1, by first | rfl | exact congrArg _ hwi, ⟨HHI.out, by have h := HO6.out; rw [HNX.out] at h; exact h, HB6.out⟩⟩
      case measure => have := HHI.out; have := HL.out; simp only [intOf]; omega
    · have d1 := decide_eq_false (show ¬ (i : Int) < (P.length : Int) by omega)
      have he : i = P.length := by have := HI.out.1; omega
      have HE := Aside0.mk (show _ ∧ _ from ⟨HI.out.2.1, HI.out.2.2⟩)
      subst he
      go_wp2
      go_ret
      exact ⟨_, rfl, by have h := HE.out.1; rw [← readV_len T P, List.take_length] at h; exact h, HE.out.2⟩
def Loc (w : World) (own : Nat → Prop) (gs : Nat) (ok : Nat → Prop) : Prop := ∀ k, ok k → ¬ own k ∧ k ≠ gs ∧ k < w.heap.size
section
variable {w w' w0 w1 w2 : World} {B : Nat} {own own' op ot ok : Nat → Prop} {gs na : Nat} {S : SS} {A : SA} {P X : List Int} {M : MS} {α : Type} {d : Kd α} {e base : Nat} {v : Value} {xs : List α}
theorem Loc.keep (h : Loc w own gs ok) (hk : Kept w w' (fun k => own k ∨ k = gs)) (ho : ∀ k, own' k → own k ∨ w.heap.size ≤ k) : Loc w' own' gs ok := fun k hk2 => by
  obtain ⟨g1, g2, g3⟩ := h k hk2
  exact ⟨fun h2 => (ho k h2).elim g1 (fun hl => by omega), g2, Nat.lt_of_lt_of_le g3 hk.1⟩
theorem Loc.row (h : Loc w own gs ok) (hk : Kept w w' (fun k => own k ∨ k = gs)) (hR : Kd.R d e w base ok v xs) : Kd.R d e w' base ok v xs :=
  Kd.R_step hR (fun k h1 h2 => hk.2 k h2 (fun hS => hS.elim (h k h1).1 (h k h1).2.1))
theorem Loc.below (h : Loc w own gs ok) (hb : Below w.heap.size w w') : Loc w' own gs ok := fun k hk => ⟨(h k hk).1, (h k hk).2.1, Nat.lt_of_lt_of_le (h k hk).2.2 hb.size⟩
theorem SG.loc (h : SG w B own gs S M) (hb : Below w.heap.size w w') : Loc w' own gs (fun k => w.heap.size ≤ k ∧ k < w'.heap.size) := fun k hk =>
  ⟨fun ho => by have := h.mem.2 k ho; have := hk.1; omega, by have := blk_lt h.shot; have := hk.1; omega, hk.2⟩
theorem outer (hb : Below w0.heap.size w0 w1) (hna : w0.heap.size ≤ na) (hot : ∀ k, ot k → w0.heap.size ≤ k) (h2 : (∀ k, own' k → own k ∨ w1.heap.size ≤ k) ∧ Kept w1 w2 (fun k => own k ∨ k = gs ∨ k = na ∨ ot k) ∧ Below B w1 w2) : (∀ k, own' k → own k ∨ w0.heap.size ≤ k) ∧ Kept w0 w2 (fun k => own k ∨ k = gs) :=
  ⟨fun k hk => (h2.1 k hk).imp id (Nat.le_trans hb.size), ⟨Nat.le_trans hb.size h2.2.1.1, fun i hi hn => (h2.2.1.2 i (Nat.lt_of_lt_of_le hi hb.size) (fun hS => by
    rcases hS with hS | hS | rfl | hS
    · exact hn (.inl hS)
    · exact hn (.inr hS)
    · omega
    · have := hot i hS; omega)).trans (hb.block i hi)⟩⟩
end
theorem port_num (a : Int) : ∃ m : Nat, m ≤ 63 ∧ IntKind.i64.wrap (Int.tmod (IntKind.u64.wrap a) 64) = (m : Int) ∧ IntKind.i64.wrap (1 + (m : Int)) = ((m + 1 : Nat) : Int) := by
  have h0 := u64_pos a
  have h1 := Int.tmod_nonneg 64 h0
  have h2 := Int.tmod_lt_of_pos (IntKind.u64.wrap a) (show (0 : Int) < 64 by decide)
  refine ⟨(Int.tmod (IntKind.u64.wrap a) 64).toNat, by omega, ?_, ?_⟩
  · rw [IntKind.wrap_i64]; omega
  · rw [IntKind.wrap_i64]; omega
theorem lit0 (W : World) (base k : Nat) (hk : W.heap.size = k) (hb : base ≤ W.heap.size) : Kd.R (Kd.int .u64) 29 (W.alloc (.cells #[] 29)) base (fun _ => True) (.slice (some ⟨k, 0, none⟩) 0 0) [] := by
  subst hk
  exact Kd.R_of_own (enc := Value.int .u64) (h1 := fun _ => rfl) (World.ownsRow_lit (base := base) (e := 29) (size := 1) W #[] 0 hb (by decide) rfl) (fun _ _ => trivial)
theorem lit1 (W : World) (base k : Nat) (hk : W.heap.size = k) (hb : base ≤ W.heap.size) (x : Int) : Kd.R (Kd.int .u64) 29 (W.alloc (.cells #[.int .u64 x] 29)) base (fun j => j = k) (.slice (some ⟨k, 0, none⟩) 1 1) [x] := by
  subst hk
  exact Kd.R_of_own (enc := Value.int .u64) (h1 := fun _ => rfl) (World.ownsRow_lit (base := base) (e := 29) (size := 1) W #[.int .u64 x] 1 hb (by decide) rfl) (fun j hj => by simp [Value.ownBlock] at hj; exact hj.symm)
def rot (T : List Int) : List Int := T.drop 1 ++ [T[0]?.getD 0]
theorem rot_len {T : List Int} (h : 1 ≤ T.length) : (rot T).length = T.length := by unfold rot; rw [List.length_append, List.length_drop, List.length_singleton]; omega
theorem rot_back {T : List Int} {m : Nat} (h : T.length = m + 1) : (rot T)[m]?.getD 0 :: (rot T).take m = T := by
  cases T with
  | nil => cases h
  | cons x xs =>
    have h1 : xs.length = m := by simpa using h
    subst h1
    simp [rot]
set_option maxRecDepth 100000
structure KI (W w : World) (gm gs n : Nat) (own ok : Nat → Prop) (v : Value) (X T : List Int) (L : List S128) (i : Nat) : Prop where
  sg : SG w W.heap.size own gs ⟨gm, n, 1, 2 * (i : Int)⟩ (SM (2 * (i : Int)) T (-1) L)
  r : Kd.R (Kd.int .u64) 29 w W.heap.size ok v X
  loc : Loc w own gs ok
  lx : X.length = n
  lt : T.length = n
  ll : L.length ≤ i * 100
  rt : i = 0 ∨ X = rot T
  bel : Below W.heap.size W w
set_option maxHeartbeats 8000000 in
theorem SKeeps_calls (s : Int) (A1 A2 : Option Addr) (c1 c2 : Nat) (l1 l2 : List Int) (W : World) (h1 : Kd.C (Kd.int .u64) W A1 l1.length l1) (hc1 : l1.length ≤ c1) (h2 : Kd.C (Kd.int .i64) W A2 l2.length l2) (hc2 : l2.length ≤ c2) :
    Calls Try.prog 13 #[.int .i64 s, .slice A1 l1.length c1, .slice A2 l2.length c2] W fun e w' => e = .returned (.bool true) ∧ Below W.heap.size W w' := by
  obtain ⟨m, hm, e1, e2⟩ := port_num s
  obtain ⟨n, hn⟩ : ∃ n, n = m + 1 := ⟨_, rfl⟩
  rw [← hn] at e2
  have HN := Aside0.mk (show n = m + 1 ∧ m ≤ 63 from ⟨hn, hm⟩)
  obtain ⟨kf, X0, hf, hX0⟩ := fit_ok l1 (n := n) (by omega)
  obtain ⟨ks, Q, hs, hQ1, hQ2, hQ3⟩ := some_ok l2 (n := n) (by omega)
  have H1 := Aside0.mk (show _ ∧ _ ∧ _ from ⟨h1, hc1, hf⟩)
  have H2 := Aside0.mk (show _ ∧ _ ∧ _ from ⟨h2, hc2, hs⟩)
  have HX := Aside0.mk hX0
  have HQ := Aside0.mk (show _ ∧ _ ∧ _ from ⟨hQ1, hQ2, hQ3⟩)
  have BG := Aside0.mk (show ∀ w, Calls Try.prog 65 #[.int .i64 (n : Int), .int .i64 1] w _ from fun w => sbegin_C n 1 (by omega) (by decide) w)
  clear h1 h2 hc1 hc2 hf hs hX0 hQ1 hQ2 hQ3 hm hn
  go_enter Try.func13, Try.ntmps13
  go_upto_region 6 with (first | (go_at_call 65; ((refine (BG.out _).mono ?_); rintro e w1 ⟨gm, gs, own, rfl, hsg, hb⟩; have HS1 := Aside0.mk hsg; have HB1 := Aside0.mk hb; clear hsg hb)) | (go_at_call 66; ((refine (told13_C _).mono ?_); rintro e w2 ⟨rfl, hb⟩; have HS2 := Aside0.mk (HS1.out.below hb); have HB2 := Aside0.mk (below_step HB1.out hb); clear hb)) | (go_at_call 67; ((refine (marchlandref13_Fit.calls kf A1 c1 l1 (n : Int) X0 _ (Kd.C_below H1.out.1 HB2.out) H1.out.2.1 H1.out.2.2).mono ?_); rintro e w3 ⟨v3, rfl, hr, hb⟩; have HS3 := Aside0.mk (HS2.out.below hb); have HB3 := Aside0.mk (below_step HB2.out hb); have HR3 := Aside0.mk (show Kd.R (Kd.int .u64) 29 w3 W.heap.size (fun k => w2.heap.size ≤ k ∧ k < w3.heap.size) v3 X0 from Kd.R_mono (Kd.R_lower (Kd.R_bound hr) HB2.out.size) (fun k hk => ⟨hk.2.1, hk.2.2.1⟩)); have HL3 := Aside0.mk (HS2.out.loc hb); clear hr hb)))
  obtain ⟨A3, n3, c3, rfl⟩ := R_any HR3.out
  obtain rfl : n3 = n := (Kd.R_reads' HR3.out).1.trans HX.out
  clear HS1 HS2 HB1 HB2 H1 BG e1 e2
  go_wp2
  go_loopw [10, 11] (fun v10 v11 wr => ∃ (i : Nat) (A : Option Addr) (c : Nat), v11 = .int .i64 (i : Int) ∧ v10 = .slice A n3 c ∧ Aside0 (i ≤ 3 ∧ ∃ own ok X T L, KI W wr gm gs n3 own ok (.slice A n3 c) X T L i)) (fun v10 v11 _ => (10 - intOf v11).toNat)
  case atStart => exact ⟨0, A3, c3, rfl, rfl, ⟨by omega, own, _, X0, List.replicate n3 0, [], ⟨HS3.out, HR3.out, HL3.out, HX.out, List.length_replicate, Nat.zero_le _, .inl rfl, HB3.out⟩⟩⟩
  case round =>
    clear HS3 HR3 HL3 HB3
    obtain ⟨i, A, c, rfl, rfl, HI⟩ := hrel
    obtain ⟨hi3, own1, ok, X, T, L, hki⟩ := HI.out
    have HK := Aside0.mk hki
    clear hki HI
    by_cases hi : i < 3
    · have d1 := decide_eq_true (show (i : Int) < 3 by omega)
      have hwi : IntKind.i64.wrap ((i : Int) + 1) = (i : Int) + 1 := by rw [IntKind.wrap_i64]; omega
      have HI3 := Aside0.mk hi
      have q5 : X.length = n3 := HK.out.lx
      have PB0 := Publish_C (X := X) 0 A c HK.out.sg (Kd.R_reads' HK.out.r).2.2 (by rw [q5]; exact (Kd.R_reads' HK.out.r).2.1) (Int.le_refl 0) (by rw [q5]) (by have := HN.out; omega)
      rw [q5] at PB0
      have PB := Aside0.mk PB0
      clear PB0 q5 hi hi3
      go_upto_region 12 with (first | (go_at_call 68; ((refine PB.out.mono ?_); rintro e w4 ⟨na, vt, op, ot, rfl, hna, hsp, g1, g2, hb⟩; have HP4 := Aside0.mk hsp; have HO4 := Aside0.mk (show _ ∧ _ ∧ _ from ⟨hb, hna, g2⟩); have PF := Aside0.mk (pub_finish (T := T) (v := 2 * (i : Int)) hsp rfl ⟨by omega, by have := HI3.out; omega⟩ rfl rfl ⟨Int.le_refl 0, show (Lit.int .i64 0).wf = true by decide⟩ ⟨HK.out.lx.trans HK.out.lt.symm, by have := HK.out.lx; have := HN.out; omega, by have := HK.out.lx; have := HN.out; omega⟩ (by have := HK.out.ll; have := HI3.out; omega)); clear hna hsp g1 g2 hb)) | (go_at_call 69; ((refine PF.out.mono ?_); rintro e w5 ⟨rfl, L5, hL5, o5, hsp5, hk5⟩; have HT5 := Aside0.mk (outer HO4.out.1 HO4.out.2.1 HO4.out.2.2 hk5); have HP5 := Aside0.mk hsp5; have HL5 := Aside0.mk hL5; have HB5 := Aside0.mk ((below_step HK.out.bel HO4.out.1).trans hk5.2.2); have VA := Aside0.mk (SVain_C hsp5.a.act); clear hL5 hsp5 hk5)) | (go_at_call 70; ((refine VA.out.mono ?_); rintro e w6 ⟨rfl, hw6⟩; obtain rfl := hw6.symm)))
      have HR5 := Aside0.mk (HK.out.loc.row HT5.out.2 HK.out.r)
      have HC5 := Aside0.mk (HK.out.loc.keep HT5.out.2 HT5.out.1)
      clear PB PF VA HP4 HO4
      obtain ⟨gt, ct, hv, -⟩ := Kd.R_form HR5.out (by have := HK.out.lx; have := HN.out; omega)
      injection hv with hA hn hc
      subst hA hc
      clear hn
      have q1 : (1 : Int) ≤ (n3 : Int) := by have := HN.out; omega
      have q0 : (0 : Int) < (n3 : Int) := by have := HN.out; omega
      have q0n : 0 < n3 := by have := HN.out; omega
      have qc : (n3 : Int) ≤ (c : Int) := by have := (Kd.R_reads' HR5.out).2.1; omega
      obtain ⟨x, hx⟩ : ∃ x, X[0]?.getD 0 = x := ⟨_, rfl⟩
      have hx0 : w5.cell? ⟨gt, 0, none⟩ = some (.int .u64 x) := by rw [← hx]; exact (Kd.R_celln 0 HR5.out 0 (by decide) q0).1
      have HXX := Aside0.mk hx
      have HSS := Aside0.mk (fun w' (hb : Below w5.heap.size w5 w') => (hb.cell (p := ⟨gt, 0, none⟩) (World.block_lt_of_cell? w5 _ hx0)).trans hx0)
      clear hx hx0
      have HLX0 := Aside0.mk HK.out.lx
      have DROP := Aside0.mk (show Kd.C (Kd.int .u64) w5 (if c = 1 then some ⟨gt, 0, none⟩ else some ⟨gt, 1, none⟩) (n3 - 1) (X.drop 1) from by
        have hC := Kd.C_drop (m := 1) (c := c) (Kd.R_reads' HR5.out).2.2 (by have := HN.out; have := HK.out.lx; omega) (by have := (Kd.R_reads' HR5.out).2.1; have := HK.out.lx; omega)
        rw [List.length_drop, HK.out.lx] at hC
        exact hC)
      go_region_held3 (fun w' => w'.cell? ⟨gt, 0, none⟩ = some (.int .u64 x))
        (exact HSS.out _ (by repeat (first | with_reducible exact Below.refl _ _ | exact HB7.out | exact HB6.out | apply below_drew | apply below_alloc)))
        (first | (rw [alloc_drew, alloc_drew]; refine Kd.R_append_rows_step (Kd.int .u64) (w0 := w5) w5.heap.size (by rfl) (.tmp 50) (.tmp 52) 44 29 (.int .u64 0) 8 rfl Try.underlying44 info29 rfl (by decide) (by omega) _ [] (X.drop 1) _ _ _ (fun _ => True) (fun _ => False) rfl rfl ?aO ?aR (fun _ _ h => h) (fun _ h => h.elim) (fun _ _ => trivial) ?aB ?aS ?aL ?_; (case aO => exact (lit0 (w5.drew.alloc (.cells #[.int .u64 x] 29)) _ _ (by simp) (by simp))); (case aR => exact (Kd.C_below DROP.out (by repeat (first | with_reducible exact Below.refl _ _ | exact HB6.out | apply below_drew | apply below_alloc)))); (case aB => exact (by repeat (first | with_reducible exact Below.refl _ _ | exact HB6.out | apply below_drew | apply below_alloc))); (case aS => exact below_size (w := w5) (by repeat (first | with_reducible exact Below.refl _ _ | exact HB6.out | apply below_drew | apply below_alloc))); (case aL => exact (by have := HN.out; simp only [List.length_nil]; omega)); intro v6 w6 ho hb hg hat; rw [List.nil_append] at ho; have HO6 := Aside0.mk ho; have HB6 := Aside0.mk hb; have HLX := Aside0.mk (Kd.R_grown (Kd.R_alloc (lit1 w5.drew w5.heap.size w5.heap.size (by simp) (by simp) x) (.cells #[] 29)) hg (fun k hk => by subst hk; show some w5.heap.size ≠ some (w5.heap.size + 1); simp)); clear ho hb hg hat) | (rw [alloc_drew, alloc_drew]; refine Kd.R_append_rows_step (Kd.int .u64) (w0 := w5) w5.heap.size (by rfl) (.tmp 50) (.tmp 52) 44 29 (.int .u64 0) 8 rfl Try.underlying44 info29 rfl (by decide) (by omega) _ [] (X.drop 1) _ _ _ (fun _ => True) (fun _ => False) rfl rfl ?aO ?aR (fun _ _ h => h) (fun _ h => h.elim) (fun _ _ => trivial) ?aB ?aS ?aL ?_; (case aO => exact (Kd.R_alloc (lit0 _ _ _ (by simp) (by simp)) (.cells #[.int .u64 x] 29))); (case aR => exact (Kd.C_below DROP.out (by repeat (first | with_reducible exact Below.refl _ _ | exact HB6.out | apply below_drew | apply below_alloc)))); (case aB => exact (by repeat (first | with_reducible exact Below.refl _ _ | exact HB6.out | apply below_drew | apply below_alloc))); (case aS => exact below_size (w := w5) (by repeat (first | with_reducible exact Below.refl _ _ | exact HB6.out | apply below_drew | apply below_alloc))); (case aL => exact (by have := HN.out; simp only [List.length_nil]; omega)); intro v6 w6 ho hb hg hat; rw [List.nil_append] at ho; have HO6 := Aside0.mk ho; have HB6 := Aside0.mk hb; have HLX := Aside0.mk (Kd.R_grown (lit1 (w5.drew.alloc (.cells #[] 29)) w5.heap.size (w5.heap.size + 1) (by simp) (by simp) x) hg (fun k hk => by subst hk; show some (w5.heap.size + 1) ≠ some w5.heap.size; simp)); clear ho hb hg hat) | (rw [alloc_drew]; refine Kd.R_append_rows_step (Kd.int .u64) (w0 := w5) w5.heap.size (by rfl) (.tmp 50) (.tmp 52) 44 29 (.int .u64 0) 8 rfl Try.underlying44 info29 rfl (by decide) (by omega) _ [] (X.drop 1) _ _ _ (fun _ => True) (fun _ => False) rfl rfl ?aO ?aR (fun _ _ h => h) (fun _ h => h.elim) (fun _ _ => trivial) ?aB ?aS ?aL ?_; (case aO => exact (lit0 _ _ _ (by simp) (by simp))); (case aR => exact (Kd.C_below DROP.out (by repeat (first | with_reducible exact Below.refl _ _ | exact HB6.out | apply below_drew | apply below_alloc)))); (case aB => exact (by repeat (first | with_reducible exact Below.refl _ _ | exact HB6.out | apply below_drew | apply below_alloc))); (case aS => exact below_size (w := w5) (by repeat (first | with_reducible exact Below.refl _ _ | exact HB6.out | apply below_drew | apply below_alloc))); (case aL => exact (by have := HN.out; simp only [List.length_nil]; omega)); intro v6 w6 ho hb hg hat; rw [List.nil_append] at ho; have HO6 := Aside0.mk ho; have HB6 := Aside0.mk hb; clear ho hb hg hat) | (refine Kd.R_append_rows_step (Kd.int .u64) (w0 := w5) w5.heap.size (by rfl) (.tmp 53) (.tmp 57) 44 29 (.int .u64 0) 8 rfl Try.underlying44 info29 rfl (by decide) (by omega) _ (X.drop 1) [x] _ _ _ (fun _ => True) (fun _ => False) rfl rfl ?aO ?aR (fun _ _ h => h) (fun _ h => h.elim) (fun _ _ => trivial) ?aB ?aS ?aL ?_; (case aO => exact (Kd.R_alloc HO6.out (.cells #[.int .u64 x] 29))); (case aR => exact (Kd.R_reads' (lit1 w6 w6.heap.size w6.heap.size rfl (Nat.le_refl _) x)).2.2); (case aB => exact (by repeat (first | with_reducible exact Below.refl _ _ | exact HB6.out | apply below_drew | apply below_alloc))); (case aS => exact below_size (w := w5) (by repeat (first | with_reducible exact Below.refl _ _ | exact HB6.out | apply below_drew | apply below_alloc))); (case aL => exact (by have := HN.out; rw [List.length_drop, HLX0.out]; omega)); intro v7 w7 ho hb hg hat; have HO7 := Aside0.mk ho; have HB7 := Aside0.mk hb; clear ho hb hg hat) | (refine Kd.R_append_rows_step (Kd.int .u64) (w0 := w5) w5.heap.size (by rfl) (.tmp 53) (.tmp 57) 44 29 (.int .u64 0) 8 rfl Try.underlying44 info29 rfl (by decide) (by omega) _ (X.drop 1) [x] _ _ _ (fun _ => True) (fun _ => False) rfl rfl ?aO ?aR (fun _ _ h => h) (fun _ h => h.elim) (fun _ _ => trivial) ?aB ?aS ?aL ?_; (case aO => exact HO6.out); (case aR => exact (Kd.R_reads' HLX.out).2.2); (case aB => exact (by repeat (first | with_reducible exact Below.refl _ _ | exact HB6.out | apply below_drew | apply below_alloc))); (case aS => exact below_size (w := w5) (by repeat (first | with_reducible exact Below.refl _ _ | exact HB6.out | apply below_drew | apply below_alloc))); (case aL => exact (by have := HN.out; rw [List.length_drop, HLX0.out]; omega)); intro v7 w7 ho hb hg hat; have HO7 := Aside0.mk ho; have HB7 := Aside0.mk hb; clear ho hb hg hat) | fail)
      all_goals
        have hrot : X.drop 1 ++ [x] = rot X := by unfold rot; rw [HXX.out]
        have hR7 := HO7.out
        rw [hrot] at hR7
        obtain ⟨A7, n7, c7, rfl⟩ := R_any hR7
        have hn7 : n7 = n3 := (Kd.R_reads' hR7).1.trans ((rot_len (by have := HK.out.lx; have := HN.out; omega)).trans HK.out.lx)
        subst hn7
        have HR7 := Aside0.mk hR7
        clear hrot hR7 HO7
        go_wp2
        go_roundw
        case rel =>
          have e9 : 2 * (i : Int) + 1 + 1 = 2 * ((i + 1 : Nat) : Int) := by omega
          have hsg := HP5.out.g.below HB7.out
          rw [e9] at hsg
          exact ⟨i + 1, A7, c7, by first | rfl | exact congrArg _ hwi, rfl, ⟨by have := HI3.out; omega, o5, _, rot X, X, L5, ⟨hsg, Kd.R_mono (Kd.R_lower (Kd.R_bound HR7.out) HB5.out.size) (fun k hk => ⟨hk.2.1, hk.2.2.1⟩), HP5.out.g.loc HB7.out, (rot_len (by have := HK.out.lx; have := HN.out; omega)).trans HK.out.lx, HK.out.lx, by have := HL5.out; have := HK.out.ll; have := HK.out.lx; have := HN.out; omega, .inr rfl, below_step HB5.out HB7.out⟩⟩⟩
        case measure => have := HI3.out; simp only [intOf]; omega
    · have d1 := decide_eq_false (show ¬ (i : Int) < 3 by omega)
      obtain rfl : i = 3 := by omega
      clear hi hi3
      obtain ⟨gt, ct, hv, -⟩ := Kd.R_form HK.out.r (by have := HK.out.lx; have := HN.out; omega)
      injection hv with hA hn hc
      subst hA hc
      clear hn
      have q1 : (0 : Int) ≤ (m : Int) := by omega
      have q0 : (m : Int) < (n3 : Int) := by have := HN.out; omega
      have qc : (m : Int) ≤ (c : Int) := by have := (Kd.R_reads' HK.out.r).2.1; have := HN.out; omega
      have hwm : IntKind.i64.wrap ((n3 : Int) - 1) = (m : Int) := by have := HN.out; rw [IntKind.wrap_i64]; omega
      obtain ⟨x, hx⟩ : ∃ x, X[m]?.getD 0 = x := ⟨_, rfl⟩
      have hx0 : wr.cell? ⟨gt, m, none⟩ = some (.int .u64 x) := by rw [← hx, ← rd_nat]; exact (Kd.R_celln 0 HK.out.r (m : Int) q1 q0).1
      have HXX := Aside0.mk hx
      have HSS := Aside0.mk (fun w' (hb : Below wr.heap.size wr w') => (hb.cell (p := ⟨gt, m, none⟩) (World.block_lt_of_cell? wr _ hx0)).trans hx0)
      clear hx hx0
      have TK := Aside0.mk (show Kd.C (Kd.int .u64) wr (some ⟨gt, 0, none⟩) m (X.take m) from by
        have hC := Kd.C_take (m := m) (Kd.R_reads' HK.out.r).2.2 (by have := HN.out; have := HK.out.lx; omega)
        rw [List.length_take, Nat.min_eq_left (by have := HN.out; have := HK.out.lx; omega)] at hC
        exact hC)
      go_upto_region 13 with fail
      go_region_held3 (fun w' => w'.cell? ⟨gt, m, none⟩ = some (.int .u64 x))
        (exact HSS.out _ (by repeat (first | with_reducible exact Below.refl _ _ | exact HB7.out | apply below_drew | apply below_alloc)))
        (first | ((rw [alloc_drew]; refine Kd.R_append_rows_step (Kd.int .u64) (w0 := wr) wr.heap.size (by rfl) (.tmp 64) (.tmp 68) 44 29 (.int .u64 0) 8 rfl Try.underlying44 info29 rfl (by decide) (by omega) _ [x] (X.take m) _ _ _ (fun _ => True) (fun _ => False) rfl rfl ?aO ?aR (fun _ _ h => h) (fun _ h => h.elim) (fun _ _ => trivial) ?aB ?aS ?aL ?_; (case aO => exact (Kd.R_mono (lit1 wr.drew wr.heap.size wr.heap.size (by simp) (by simp) x) (fun _ _ => trivial))); (case aR => exact (Kd.C_below TK.out (by repeat (first | with_reducible exact Below.refl _ _ | exact HB7.out | apply below_drew | apply below_alloc)))); (case aB => exact (by repeat (first | with_reducible exact Below.refl _ _ | exact HB7.out | apply below_drew | apply below_alloc))); (case aS => exact below_size (w := wr) (by repeat (first | with_reducible exact Below.refl _ _ | exact HB7.out | apply below_drew | apply below_alloc))); (case aL => exact (by have := HN.out; simp only [List.length_cons, List.length_nil]; omega)); intro v7 w7 ho hb hg hat; have HO7 := Aside0.mk ho; have HB7 := Aside0.mk hb; clear ho hb hg hat)) | fail)
      have hT : [x] ++ X.take m = T := by
        have h1 := rot_back (T := T) (m := m) (by have := HK.out.lt; have := HN.out; omega)
        have h2 : X = rot T := HK.out.rt.elim (fun e => by omega) id
        rw [← h2, HXX.out] at h1
        exact h1
      have hR7 := HO7.out
      rw [hT] at hR7
      obtain ⟨A7, n7, c7, rfl⟩ := R_any hR7
      have HR7 := Aside0.mk (Kd.R_mono (Kd.R_bound hR7) (ok' := fun k => wr.heap.size ≤ k ∧ k < w7.heap.size) (fun k hk => ⟨hk.2.1, hk.2.2.1⟩))
      have HC7 := Aside0.mk (HK.out.sg.loc HB7.out)
      have HS7 := Aside0.mk (HK.out.sg.below HB7.out)
      have HW7 := Aside0.mk (below_step HK.out.bel HB7.out)
      clear hT hR7 HO7 TK HSS HXX
      go_upto_region 15 with (first | (go_at_call 71; ((refine (marchlandref13_Some.calls ks A2 c2 l2 (n3 : Int) Q _ (Kd.C_below H2.out.1 HW7.out) H2.out.2.1 H2.out.2.2).mono ?_); rintro e w8 ⟨v8, rfl, hr, hb⟩; obtain ⟨A8, n8, c8, rfl⟩ := R_any hr; have HR8 := Aside0.mk hr; have HB8 := Aside0.mk hb; clear hr hb)))
      obtain rfl : n8 = Q.length := (Kd.R_reads' HR8.out).1
      go_upto_region 16 with (first | ((with_reducible refine gate_builtin (b := .append) (xs := #[.tmp 73, .tmp 74]) rfl ?_); at_builtin; refine Kd.R_append_rows (Kd.int .i64) (w0 := w8) w7.heap.size rfl (.tmp 73) (.tmp 74) 25 3 (.int .i64 0) 8 rfl Try.underlying25 info3 rfl (by decide) (by omega) _ Q Q _ _ _ (fun _ => True) (fun _ => False) rfl rfl ?aO ?aR (fun _ _ h => h) (fun _ h => h.elim) ?aF ?aB ?aS ?aL ?_; (case aR => exact (Kd.R_reads' HR8.out).2.2); (case aB => exact Below.refl _ _); (case aF => exact (fun _ _ => trivial)); (case aO => exact HR8.out); (case aS => exact HB8.out.size); (case aL => have := HQ.out; have := (Kd.R_reads' HR8.out).1; omega); intro v9 w9 ho hb hg hat; have HB9 := Aside0.mk hb; have HO9 := Aside0.mk ho; clear ho hb hg hat))
      obtain ⟨A9, n9, c9, rfl⟩ := R_any HO9.out
      obtain ⟨g9, cc9, hv9, -⟩ := Kd.R_form HO9.out (by have := HQ.out; rw [List.length_append]; omega)
      injection hv9 with hA9 hn9 hc9
      subst hA9
      clear hn9 hc9
      have HB10 := Aside0.mk (HB8.out.trans HB9.out)
      have HS9 := Aside0.mk (HS7.out.below HB10.out)
      have HR9 := Aside0.mk (Kd.R_below HR7.out HB10.out)
      have HC9 := Aside0.mk (HC7.out.below HB10.out)
      have HW9 := Aside0.mk (below_step HW7.out HB10.out)
      have h9 := (Kd.R_reads' HO9.out).1
      have hq0 : (0 : Int) ≤ (n9 : Int) := by omega
      have hq2n : n9 ≤ c9 := (Kd.R_reads' HO9.out).2.1
      have hq1 : (n9 : Int) ≤ 64 := by have := HQ.out; rw [h9, List.length_append]; omega
      have hq2 : (n9 : Int) ≤ (c9 : Int) := by have := (Kd.R_reads' HO9.out).2.1; omega
      have HPP := Aside0.mk (show ∀ p ∈ Q ++ Q, 0 ≤ p ∧ p < (T.length : Int) from fun p hp => by
        have h := HQ.out.2.2 p ((List.mem_append.1 hp).elim id id)
        have := HK.out.lt
        omega)
      have HTL := Aside0.mk (show T.length ≤ 64 ∧ 1 ≤ T.length from by have := HK.out.lt; have := HN.out; omega)
      have hql : 1 ≤ (Q ++ Q).length ∧ (Q ++ Q).length ≤ 26 := by have := HQ.out; rw [List.length_append]; omega
      have HLR := Aside0.mk (show (readV T (Q ++ Q)).length ≤ 26 from by rw [readV_len]; exact hql.2)
      have RD0 := Read_C (P := Q ++ Q) 9 (some ⟨g9, 0, none⟩) c9 HS9.out (Kd.R_reads' HO9.out).2.2 (by rw [← h9]; exact (Kd.R_reads' HO9.out).2.1) (by decide) (fun p hp => by have h := HPP.out p hp; have h2 := HK.out.lt; show 0 ≤ p ∧ p < (n3 : Int); omega) ⟨hql.1, by omega⟩
      rw [← h9] at RD0
      have RDC := Aside0.mk RD0
      have HRQ := Aside0.mk (Kd.R_mono (Kd.R_bound HO9.out) (ok' := fun k => w7.heap.size ≤ k ∧ k < w9.heap.size) (fun k hk => ⟨hk.2.1, hk.2.2.1⟩))
      have HCQ := Aside0.mk (HS7.out.loc HB10.out)
      have hmin : ¬ (64 : Int) < (n9 : Int) := by omega
      have H9 := Aside0.mk h9
      clear RD0 hql h9
      go_upto_region 17 with (first | (go_at_call 72; ((refine RDC.out.mono ?_); rintro e w10 ⟨na, vp, vt, op, ot, rfl, hna, hsp, g1, g2, hb⟩; have HSP := Aside0.mk (hsp.below (below_drew (Below.refl _ w10))); have HD10 := Aside0.mk (below_drew hb); have HO10 := Aside0.mk (show _ ∧ _ from ⟨hna, g2⟩); clear hna hsp g1 g2 hb)))
      have FA := Aside0.mk (rd_finish (T := T) (v := 2 * ((3 : Nat) : Int)) HSP.out (by decide) rfl ⟨(by decide : (0 : Int) ≤ 9), show (Lit.int .i64 9).wf = true by decide⟩ ⟨by rw [List.length_replicate]; exact H9.out, by have := HLR.out; rw [readV_len] at this; have := HQ.out; rw [List.length_append] at *; omega⟩ HTL.out.1 HPP.out (by have := HK.out.ll; omega))
      have hmin2 : ((64 : Int) < (n9 : Int)) = False := eq_false (by omega)
      go_region_held3 (fun w' => True)
        (trivial)
        (first | (go_at_call 69; ((with_reducible refine FA.out.mono ?_); rintro e w11 ⟨rfl, L11, hL11, o11, hsp11, hk11⟩; have HT := outer HD10.out HO10.out.1 HO10.out.2 hk11; have HR11 := Aside0.mk (HC9.out.row HT.2 HR9.out); have HQ11 := Aside0.mk (HCQ.out.row HT.2 HRQ.out); have HB11 := Aside0.mk ((below_step HW9.out HD10.out).trans hk11.2.2); have TI := Aside0.mk (fun w1 (hb : Below w11.heap.size w11 w1) => STimes_C (hsp11.a.below hb) rfl rfl (by have := HLR.out; omega)); have RD := Aside0.mk (fun w1 (gw : Nat) (hb : Below w11.heap.size w11 w1) (hc : w1.cell? ⟨gw, 0, none⟩ = some (.slice A7 n7 c7)) => (show Calls Try.prog 75 #[.pointer (some ⟨gw, 0, none⟩), .slice (some ⟨g9, 0, none⟩) n9 c9] w1 (fun e w' => ∃ v, e = .returned v ∧ Kd.R (Kd.int .u64) 29 w' w1.heap.size (fun _ => True) v (readV T (Q ++ Q)) ∧ Below w1.heap.size w1 w') from (by have h := SRead_C (cp := c9) T (Q ++ Q) w1 (by rw [← (Kd.R_reads' HR11.out).1]; exact hc) (Kd.C_below (Kd.R_reads' HR11.out).2.2 hb) (Kd.C_below (Kd.R_reads' HQ11.out).2.2 hb) HPP.out (by have := HLR.out; have := HTL.out; rw [readV_len] at *; omega); rw [← (Kd.R_reads' HQ11.out).1] at h; exact h))); clear hL11 hsp11 hk11 HT)) | (go_at_call 74; ((with_reducible refine (TI.out _ (Below.refl _ _)).mono ?_); rintro e w12 ⟨v12, rfl, hr, hb⟩; obtain ⟨A12, n12, c12, rfl⟩ := R_any hr; obtain rfl : n12 = (readV T (Q ++ Q)).length := (Kd.R_reads' hr).1; have HRA := Aside0.mk hr; have HBA := Aside0.mk hb; clear hr hb)) | (go_at_call 74; ((with_reducible refine (TI.out _ (below_alloc (Below.refl _ w11) (.cells #[.slice A7 n7 c7] 116))).mono ?_); rintro e w12 ⟨v12, rfl, hr, hb⟩; obtain ⟨A12, n12, c12, rfl⟩ := R_any hr; obtain rfl : n12 = (readV T (Q ++ Q)).length := (Kd.R_reads' hr).1; have HRB := Aside0.mk hr; have HBB := Aside0.mk hb; clear hr hb)) | (go_at_call 74; ((with_reducible refine (TI.out _ HBC.out).mono ?_); rintro e w12 ⟨v12, rfl, hr, hb⟩; obtain ⟨A12, n12, c12, rfl⟩ := R_any hr; obtain rfl : n12 = (readV T (Q ++ Q)).length := (Kd.R_reads' hr).1; have SAM := Aside0.mk (Same13_C (readV T (Q ++ Q)) w12 (Kd.R_reads' hr).2.2 (Kd.R_reads' hr).2.1 (Kd.C_below (Kd.R_reads' HRC.out).2.2 hb) (Kd.R_reads' HRC.out).2.1 (by have := HLR.out; omega)); have HBS := Aside0.mk (below_step HBC.out hb); clear hr hb)) | (go_at_call 75; ((with_reducible refine (RD.out _ w12.heap.size (below_alloc HBA.out (.cells #[.slice A7 n7 c7] 116)) ((blk_cell (blk_new w12 (.cells #[.slice A7 n7 c7] 116)) 0).trans rfl)).mono ?_); rintro e w13 ⟨v13, rfl, hr, hb⟩; obtain ⟨A13, n13, c13, rfl⟩ := R_any hr; obtain rfl : n13 = (readV T (Q ++ Q)).length := (Kd.R_reads' hr).1; have SAM := Aside0.mk (Same13_C (readV T (Q ++ Q)) w13 (Kd.C_below (Kd.R_reads' HRA.out).2.2 (below_step (below_alloc (Below.refl _ w12) (.cells #[.slice A7 n7 c7] 116)) hb)) (Kd.R_reads' HRA.out).2.1 (Kd.R_reads' hr).2.2 (Kd.R_reads' hr).2.1 (by have := HLR.out; omega)); have HBS := Aside0.mk (below_step (below_alloc HBA.out (.cells #[.slice A7 n7 c7] 116)) hb); clear hr hb)) | (go_at_call 75; ((with_reducible refine (RD.out _ w11.heap.size (below_step (below_alloc (Below.refl _ w11) (.cells #[.slice A7 n7 c7] 116)) HBB.out) ((blk_cell (blk_below (blk_new w11 (.cells #[.slice A7 n7 c7] 116)) HBB.out) 0).trans rfl)).mono ?_); rintro e w13 ⟨v13, rfl, hr, hb⟩; obtain ⟨A13, n13, c13, rfl⟩ := R_any hr; obtain rfl : n13 = (readV T (Q ++ Q)).length := (Kd.R_reads' hr).1; have SAM := Aside0.mk (Same13_C (readV T (Q ++ Q)) w13 (Kd.C_below (Kd.R_reads' HRB.out).2.2 hb) (Kd.R_reads' HRB.out).2.1 (Kd.R_reads' hr).2.2 (Kd.R_reads' hr).2.1 (by have := HLR.out; omega)); have HBS := Aside0.mk (below_step (below_step (below_alloc (Below.refl _ w11) (.cells #[.slice A7 n7 c7] 116)) HBB.out) hb); clear hr hb)) | (go_at_call 75; ((with_reducible refine (RD.out _ w11.heap.size (below_alloc (Below.refl _ w11) (.cells #[.slice A7 n7 c7] 116)) ((blk_cell (blk_new w11 (.cells #[.slice A7 n7 c7] 116)) 0).trans rfl)).mono ?_); rintro e w13 ⟨v13, rfl, hr, hb⟩; obtain ⟨A13, n13, c13, rfl⟩ := R_any hr; obtain rfl : n13 = (readV T (Q ++ Q)).length := (Kd.R_reads' hr).1; have HRC := Aside0.mk hr; have HBC := Aside0.mk (below_step (below_alloc (Below.refl _ w11) (.cells #[.slice A7 n7 c7] 116)) hb); clear hr hb)) | (go_at_call 73; ((with_reducible refine SAM.out.mono ?_); rintro e w14 ⟨rfl, hb⟩; have HBE := Aside0.mk (below_step HBS.out hb); clear hb)) | fail)
      all_goals
        go_wp2
        go_ret
        exact ⟨rfl, below_step HB11.out HBE.out⟩
open Go.RowKit Go.Proofs.YtlcnckbmolefpaaW.PrintWords Go.Proofs.YtlcnckbmolefpaaW.PrintLast Go.Proofs.YtlcnckbmolefpaaW.PrintMore
open Go.ChangeShapes Go.WideShapes Go.Deep
def Opens (P : Program) (t : TypeId) {α : Type} (d : Kd α) (q : α → Prop) : Prop :=
  ∀ (H : Type) (enc : TypeId × Value → H) (w : World) (base : Nat) (spare : Nat → Bool) (held : Bool) (fuel : Nat) (cs : List Value) (x : DataW H × List MemPlace),
    DataW.trod enc P w base spare held fuel t cs = some x → ∃ y : α, d.K w y cs ∧ q y
theorem Opens.int {P : Program} {t : TypeId} {k : IntKind} (hu : P.underlying t = some (.int k)) : Opens P t (Kd.int k) (fun n => (Lit.int k n).wf = true) := by
  intro H enc w base spare held fuel cs x h
  obtain ⟨n, rfl, _, hw⟩ := DataW.trod_int hu h
  exact ⟨n, rfl, hw⟩
theorem Opens.bool {P : Program} {t : TypeId} (hu : P.underlying t = some .bool) : Opens P t Kd.bool (fun _ => True) := by
  intro H enc w base spare held fuel cs x h
  obtain ⟨b, rfl, _⟩ := DataW.trod_bool hu h
  exact ⟨b, rfl, trivial⟩
theorem Opens.imp {P : Program} {t : TypeId} {α : Type} {d : Kd α} {q q' : α → Prop} (h : Opens P t d q) (hq : ∀ y, q y → q' y) : Opens P t d q' := by
  intro H enc w base spare held fuel cs x hx
  obtain ⟨y, h1, h2⟩ := h H enc w base spare held fuel cs x hx
  exact ⟨y, h1, hq y h2⟩
theorem Opens.iso {P : Program} {t : TypeId} {α β : Type} {d : Kd α} {q : α → Prop} (h : Opens P t d q) (f : β → α) (g : α → β) (hfg : ∀ y, f (g y) = y) : Opens P t (Kd.iso d f) (fun x => q (f x)) := by
  intro H enc w base spare held fuel cs x hx
  obtain ⟨y, h1, h2⟩ := h H enc w base spare held fuel cs x hx
  refine ⟨g y, ?_, by show q (f (g y)); rw [hfg]; exact h2⟩
  show d.K w (f (g y)) cs
  rw [hfg]; exact h1
theorem Opens.slice {P : Program} {t e : TypeId} {α : Type} [Inhabited α] {d : Kd α} {q : α → Prop} (hu : P.underlying t = some (.slice e)) (hc : P.cellsOf e = d.sz) (h : Opens P e d q) : Opens P t (Kd.slice e d) (fun l => l.length ≤ maxLen ∧ ∀ y ∈ l, q y) := by
  intro H enc w base spare held fuel cs x hx
  rcases open_slice hu hx with ⟨rfl, _⟩ | ⟨a, len, cap, m, n, D, Pl, rfl, hb, hl, hm, hmm, _, hel⟩
  · exact ⟨[], ⟨none, 0, rfl, Nat.le_refl _, rfl, Nat.zero_le _, fun h => absurd h (by simp)⟩, Nat.zero_le _, fun y hy => by simp at hy⟩
  · have hlm : len ≤ m := by rw [hmm]; split <;> omega
    obtain ⟨Y, hY⟩ := choose_lt (α := α) (n := len) (p := fun i y => ∃ cs', w.cells? base (a.add (i * P.cellsOf e)) (P.cellsOf e) = some cs' ∧ d.K w y cs' ∧ q y) (fun i hi => by
      obtain ⟨cs', h1, h2⟩ := hel i (by omega)
      obtain ⟨y, h3, h4⟩ := h H enc w base spare held n cs' _ h2
      exact ⟨y, cs', h1, h3, h4⟩)
    have hlen : ((List.range len).map Y).length = len := by simp
    refine ⟨(List.range len).map Y, ⟨some a, cap, by rw [hlen], by rw [hlen]; exact hl, rfl, ?_, fun _ => ⟨a, rfl, fun j p hj => ?_⟩⟩, ?_, fun y hy => ?_⟩
    · rw [hlen]; unfold maxLen at hm; omega
    · obtain ⟨hjl, hje⟩ := List.getElem?_eq_some_iff.1 hj
      rw [hlen] at hjl
      have hpj : p = Y j := by rw [← hje]; simp
      obtain ⟨cs', h1, h3, _⟩ := hY j hjl
      obtain ⟨_, hcl, hcc⟩ := World.cells?_some h1
      refine ⟨cs', d.K_len h3, by rw [hpj]; exact h3, fun i u hu2 => ?_⟩
      have hi := (List.getElem?_eq_some_iff.1 hu2).1
      rw [d.K_len h3] at hi
      have h5 := hcc i (by rw [hc]; exact hi)
      rw [hc, Go.Deep.add_add] at h5
      rw [h5, ← hu2]
    · rw [hlen]; omega
    · obtain ⟨j, hj, rfl⟩ := List.mem_map.1 hy
      obtain ⟨_, _, _, h4⟩ := hY j (List.mem_range.1 hj)
      exact h4
def OpensSeg (P : Program) (fs : List Field) (off : Nat) {α : Type} (d : Kd α) (q : α → Prop) : Prop :=
  ∀ (H : Type) (enc : TypeId × Value → H) (w : World) (base : Nat) (spare : Nat → Bool) (held : Bool) (fuel : Nat) (cs : List Value), cs.length = d.sz →
    (∀ f ∈ fs, ∃ x : DataW H × List MemPlace, DataW.trod enc P w base spare held fuel f.type ((cs.drop (f.offset - off)).take (P.cellsOf f.type)) = some x) → ∃ y : α, d.K w y cs ∧ q y
theorem OpensSeg.one {P : Program} {f : Field} {off : Nat} {α : Type} {d : Kd α} {q : α → Prop} (ho : f.offset = off) (hc : P.cellsOf f.type = d.sz) (h : Opens P f.type d q) : OpensSeg P [f] off d q := by
  intro H enc w base spare held fuel cs hl hf
  obtain ⟨x, hx⟩ := hf f List.mem_cons_self
  rw [ho, Nat.sub_self, List.drop_zero, hc, ← hl, List.take_length] at hx
  exact h H enc w base spare held fuel cs x hx
theorem OpensSeg.cons {P : Program} {f : Field} {fs : List Field} {off : Nat} {α β : Type} {d : Kd α} {d2 : Kd β} {q : α → Prop} {q2 : β → Prop} (ho : f.offset = off) (hc : P.cellsOf f.type = d.sz) (hm : ∀ g ∈ fs, off + d.sz ≤ g.offset) (h : Opens P f.type d q) (h2 : OpensSeg P fs (off + d.sz) d2 q2) :
    OpensSeg P (f :: fs) off (Kd.pair d d2) (fun y => q y.1 ∧ q2 y.2) := by
  intro H enc w base spare held fuel cs hl hf
  have hl' : cs.length = d.sz + d2.sz := hl
  obtain ⟨x, hx⟩ := hf f List.mem_cons_self
  rw [ho, Nat.sub_self, List.drop_zero, hc] at hx
  obtain ⟨y, h3, h4⟩ := h H enc w base spare held fuel _ x hx
  obtain ⟨y2, h5, h6⟩ := h2 H enc w base spare held fuel (cs.drop d.sz) (by rw [List.length_drop]; omega) (fun g hg => by
    obtain ⟨x2, hx2⟩ := hf g (List.mem_cons_of_mem _ hg)
    refine ⟨x2, ?_⟩
    have := hm g hg
    rw [List.drop_drop, show d.sz + (g.offset - (off + d.sz)) = g.offset - off by omega]
    exact hx2)
  exact ⟨(y, y2), ⟨cs.take d.sz, cs.drop d.sz, (List.take_append_drop _ _).symm, h3, h5⟩, h4, h6⟩
theorem Opens.struct {P : Program} {t : TypeId} {fs : Array Field} {α : Type} {d : Kd α} {q : α → Prop} (hu : P.underlying t = some (.struct fs)) (hc : P.cellsOf t = d.sz) (h : OpensSeg P fs.toList 0 d q) : Opens P t d q := by
  intro H enc w base spare held fuel cs x hx
  obtain ⟨xs, n, rfl, _, hl, hxs, hf⟩ := DataW.trod_struct hu hx
  refine h H enc w base spare held n cs (by rw [hl, hc]) (fun f hf2 => ?_)
  obtain ⟨i, hi, rfl⟩ := List.getElem_of_mem hf2
  have h1 := hf i fs.toList[i] (by rw [Array.getElem?_eq_getElem (by simpa using hi)]; simp)
  have hi2 : i < fs.size := by simpa using hi
  rw [List.getElem?_eq_getElem (by omega)] at h1
  exact ⟨_, by rw [Nat.sub_zero]; exact h1⟩
theorem Opens.arg {P : Program} {t e : TypeId} {α : Type} {d : Kd α} {q : List α → Prop} (ho : Opens P t (Kd.slice e d) q) {H : Type} {enc : TypeId × Value → H} {w : World} {base : Nat} {spare : Nat → Bool} {held : Bool} {a : Option Addr} {len cap : Nat} {D : DataW H} {ps : List MemPlace} (h : DataW.Trod enc P w base spare held t (.slice a len cap) D ps) :
    ∃ l : List α, len = l.length ∧ Kd.C d w a l.length l ∧ l.length ≤ cap ∧ q l := by
  obtain ⟨fuel, hf⟩ := h
  obtain ⟨l, ⟨A, c, he, hlc, hC⟩, hq⟩ := ho H enc w base spare held fuel _ _ hf
  simp [Value.cells] at he
  obtain ⟨rfl, rfl, rfl⟩ := he
  exact ⟨l, rfl, hC, hlc, hq⟩
theorem sized_slice_any {H : Type} {enc : TypeId × Value → H} {P : Program} {W : World} {base : Nat} {spare : Nat → Bool} {held : Bool} {t e : TypeId} {a : Option Addr} {len cap : Nat} {d : DataW H} {ps : List MemPlace} {ts : List TypeId} {ds : List (DataW H)} {j : Nat}
    (hsz : (DataW.weightsEach P ts ds).all (· ≤ reachBytes) = true) (ht : ts[j]? = some t) (hd : ds[j]? = some d) (hu : P.underlying t = some (.slice e)) {B : Nat} (hB : P.bytesOf e = B)
    (h : DataW.Trod enc P W base spare held t (.slice a len cap) d ps) : len * B ≤ 140737488351232 := by
  obtain ⟨fuel, hf⟩ := h
  rcases open_slice hu hf with ⟨hcs, _⟩ | ⟨x, l, c, m, n, D, Pl, hcs, _, hl, _, hm, hx, _⟩
  · simp [Value.cells] at hcs
    obtain ⟨rfl, rfl, rfl⟩ := hcs
    simp
  · simp [Value.cells] at hcs
    obtain ⟨rfl, rfl, rfl⟩ := hcs
    obtain ⟨hx, _⟩ := Prod.mk.inj hx
    subst hx
    have z := sized_slice hsz ht hd hu
    rw [hB] at z
    have h1 : len ≤ ((List.range len).map D).length + ((List.range (m - len)).map fun j => D (len + j)).length := by simp
    exact Nat.le_trans (Nat.mul_le_mul_right _ h1) z
theorem opens_i64 {P : Program} {t : TypeId} (hu : P.underlying t = some (.int .i64)) : Opens P t (Kd.int .i64) (fun n => -9223372036854775808 ≤ n ∧ n ≤ 9223372036854775807) := (Opens.int hu).imp fun _ h => bounds_i64 h
theorem opens_u64 {P : Program} {t : TypeId} (hu : P.underlying t = some (.int .u64)) : Opens P t (Kd.int .u64) (fun n => 0 ≤ n ∧ n ≤ 18446744073709551615) := (Opens.int hu).imp fun _ h => bounds_u64 h
theorem opens25 : Opens Try.prog 25 (Kd.slice 3 (Kd.int .i64)) (fun l => l.length ≤ maxLen ∧ ∀ y ∈ l, -9223372036854775808 ≤ y ∧ y ≤ 9223372036854775807) := Opens.slice Try.underlying25 (by kernel_rfl) (opens_i64 Try.underlying3)
instance : Inhabited S127 := ⟨z127⟩
open Go.RowKit Go.Proofs.YtlcnckbmolefpaaW.PrintWords
theorem opens44 : Opens Try.prog 44 (Kd.slice 29 (Kd.int .u64)) (fun l => l.length ≤ maxLen ∧ ∀ y ∈ l, 0 ≤ y ∧ y ≤ 18446744073709551615) := Opens.slice Try.underlying44 (by kernel_rfl) (opens_u64 Try.underlying29)
def marchlandlaw13_ShotKeeps.f (_k : Nat) (_a : Int) (_l1 : List Int) (_l2 : List Int) : Option Bool := some true
theorem marchlandlaw13_ShotKeeps.calls (k : Nat) (a : Int) (A1 : Option Addr) (c1 : Nat) (l1 : List Int) (A2 : Option Addr) (c2 : Nat) (l2 : List Int) (r : Bool) (w : World)
    (hC1 : Kd.C (Kd.int .u64) w A1 l1.length l1) (hc1 : l1.length ≤ c1) (hC2 : Kd.C (Kd.int .i64) w A2 l2.length l2) (hc2 : l2.length ≤ c2) (h : marchlandlaw13_ShotKeeps.f k a l1 l2 = some r) :
    Calls Try.prog 13 #[.int .i64 a, .slice A1 l1.length c1, .slice A2 l2.length c2] w fun e w' => e = .returned (.bool r) ∧ Below w.heap.size w w' := by
  obtain rfl := Option.some.inj h
  exact SKeeps_calls a A1 A2 c1 c2 l1 l2 w hC1 hc1 hC2 hc2
end Go.Proofs.Ytlcnckbmolefpaa.P
namespace Go.Proofs.Ytlcnckbmolefpaa.Pure
theorem ShotKeeps (a : Int) (l1 l2 : List Int) : ∃ k, P.marchlandlaw13_ShotKeeps.f k a l1 l2 = some true := ⟨0, rfl⟩
end Go.Proofs.Ytlcnckbmolefpaa.Pure
end
